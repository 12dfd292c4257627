-- Written by a program of the session (wip/xprint.sh, wip/xpatch.py; a variant of the print) out of the translation. Lean checks it.
import Derived.Test.YtdonphglmeimbaaQNumWidesx0
import Derived.Test.YtdonphglmeimbaaQNumWidesx1
import Derived.Test.YtdonphglmeimbaaQNumWidesx2
namespace Go.Proofs.Ytdonphglmeimbaa.QNumWides
open Go.RowKit Go.Proofs.YtdonphglmeimbaaW.PrintWords Go.Proofs.YtdonphglmeimbaaW.PrintLast Go.Proofs.YtdonphglmeimbaaW.PrintMore
attribute [local go_sem] max2_int min2_int max_two min_two max_three min_three max_four min_four   -- for this text's walks alone
set_option linter.unusedVariables false
set_option linter.unusedSimpArgs false

/-! ### pluviallaw01_NumWides: function 5 -/
mutual
def pluviallaw01_NumWides.j0 : Nat → Int → Int → Int → Int → Int → Int → Int → Bool → Int → Int → Option (Bool)
  | 0, _, _, _, _, _, _, _, _, _, _ => none
  | k + 1, x0, x1, x2, x3, x4, x13, x14, x68, x153000, x153001 => if x68 = true then (some false) else ((pluvialref01_Mul.f k x0 x3).bind fun bt160 => ((pluvialref01_Mul.f k x2 x1).bind fun bt162 => ((pluvialref01_Less.f bt160.1 bt160.2 bt162.1 bt162.2).bind fun t164 => (if t164 = true then (pluviallaw01_NumWides.j1 k x0 x1 x2 x3 x4 x13 x14 bt160.1 bt160.2 bt162.1 bt162.2 (-1) x153000 x153001) else (pluviallaw01_NumWides.j1 k x0 x1 x2 x3 x4 x13 x14 bt160.1 bt160.2 bt162.1 bt162.2 0 x153000 x153001)))))
def pluviallaw01_NumWides.j1 : Nat → Int → Int → Int → Int → Int → Int → Int → Int → Int → Int → Int → Int → Int → Int → Option (Bool)
  | 0, _, _, _, _, _, _, _, _, _, _, _, _, _, _ => none
  | k + 1, x0, x1, x2, x3, x4, x13, x14, x17, x18, x19, x20, x21, x153000, x153001 => (pluvialref01_Less.f x19 x20 x17 x18).bind fun t165 => (if t165 = true then (pluviallaw01_NumWides.j2 k x0 x1 x2 x3 x4 x13 x14 1 x153000 x153001) else (pluviallaw01_NumWides.j2 k x0 x1 x2 x3 x4 x13 x14 x21 x153000 x153001))
def pluviallaw01_NumWides.j2 : Nat → Int → Int → Int → Int → Int → Int → Int → Int → Int → Int → Option (Bool)
  | 0, _, _, _, _, _, _, _, _, _, _ => none
  | k + 1, x0, x1, x2, x3, x4, x13, x14, x21, x153000, x153001 => (num_Ratio.f x0 x1 x2 x3).bind fun t166 => (if t166 = x21 then ((num_Wide_Ceil.f k x153000 x153001 x4).bind fun bt167 => (if x4 = 0 then ((pluviallaw01_awake.f).bind fun t169 => (if t169 = true then (some (bt167.2 == 5)) else (some false))) else (if bt167.2 = 0 then ((pluvialref01_Mul.f k bt167.1 x4).bind fun bt174 => ((pluvialref01_Less.f bt174.1 bt174.2 x13 x14).bind fun t176 => (if t176 = true then (some false) else (if bt167.1 = 0 then ((pluviallaw01_awake.f).bind fun t177 => (if t177 = true then (if x13 = 0 then (some (x14 == 0)) else (some false)) else (some false))) else ((pluvialref01_Mul.f k (IntKind.u64.wrap (bt167.1 - 1)) x4).bind fun bt178 => ((pluviallaw01_awake.f).bind fun t180 => (if t180 = true then ((pluvialref01_Less.f bt178.1 bt178.2 x13 x14).bind fun t181 => (some t181)) else (some false)))))))) else ((pluvialref01_Mul.f k 18446744073709551615 x4).bind fun bt170 => ((pluviallaw01_awake.f).bind fun t172 => (if t172 = true then (if bt167.2 = 5 then ((pluvialref01_Less.f bt170.1 bt170.2 x13 x14).bind fun t173 => (some t173)) else (some false)) else (some false))))))) else (some false))
end
def pluviallaw01_NumWides.f (k : Nat) (a0 : Int) (a1 : Int) (a2 : Int) (a3 : Int) (a4 : Int) : Option (Bool) := (num_Mul.f a0 a1).bind fun bt148 => ((num_Mul.f a2 a3).bind fun bt150 => ((pluvialref01_Mul.f k a0 a1).bind fun bt154 => ((pluvialref01_Mul.f k a2 a3).bind fun bt156 => (if bt148.1 = bt154.1 then (if bt148.2 = bt154.2 then ((num_Wide_Less.f bt148.1 bt148.2 bt150.1 bt150.2).bind fun t158 => ((pluvialref01_Less.f bt154.1 bt154.2 bt156.1 bt156.2).bind fun t159 => (pluviallaw01_NumWides.j0 k a0 a1 a2 a3 a4 bt154.1 bt154.2 (t158 != t159) bt148.1 bt148.2))) else (pluviallaw01_NumWides.j0 k a0 a1 a2 a3 a4 bt154.1 bt154.2 true bt148.1 bt148.2)) else (pluviallaw01_NumWides.j0 k a0 a1 a2 a3 a4 bt154.1 bt154.2 true bt148.1 bt148.2)))))
theorem pluviallaw01_NumWides.mono_l : ∀ k, (∀ y0 y1 y2 y3 y4 y5 y6 y7 y8 y9, LeO (pluviallaw01_NumWides.j0 k y0 y1 y2 y3 y4 y5 y6 y7 y8 y9) (pluviallaw01_NumWides.j0 (k + 1) y0 y1 y2 y3 y4 y5 y6 y7 y8 y9)) ∧ (∀ y0 y1 y2 y3 y4 y5 y6 y7 y8 y9 y10 y11 y12 y13, LeO (pluviallaw01_NumWides.j1 k y0 y1 y2 y3 y4 y5 y6 y7 y8 y9 y10 y11 y12 y13) (pluviallaw01_NumWides.j1 (k + 1) y0 y1 y2 y3 y4 y5 y6 y7 y8 y9 y10 y11 y12 y13)) ∧ (∀ y0 y1 y2 y3 y4 y5 y6 y7 y8 y9, LeO (pluviallaw01_NumWides.j2 k y0 y1 y2 y3 y4 y5 y6 y7 y8 y9) (pluviallaw01_NumWides.j2 (k + 1) y0 y1 y2 y3 y4 y5 y6 y7 y8 y9))
  | 0 => ⟨fun _ _ _ _ _ _ _ _ _ _ r h => by simp [pluviallaw01_NumWides.j0] at h, fun _ _ _ _ _ _ _ _ _ _ _ _ _ _ r h => by simp [pluviallaw01_NumWides.j1] at h, fun _ _ _ _ _ _ _ _ _ _ r h => by simp [pluviallaw01_NumWides.j2] at h⟩
  | k + 1 => by
    obtain ⟨ih0, ih1, ih2⟩ := pluviallaw01_NumWides.mono_l k
    refine ⟨?_, ?_, ?_⟩
    · intro y0 y1 y2 y3 y4 y5 y6 y7 y8 y9
      unfold pluviallaw01_NumWides.j0
      repeat' first
      | (with_reducible exact ih0 _ _ _ _ _ _ _ _ _ _)
      | (with_reducible exact ih1 _ _ _ _ _ _ _ _ _ _ _ _ _ _)
      | (with_reducible exact ih2 _ _ _ _ _ _ _ _ _ _)
      | (with_reducible exact num_Wide_Ceil.mono _ _ _ _)
      | (with_reducible exact pluvialref01_Mul.mono _ _ _)
      | (with_reducible exact LeO.refl _)
      | (with_reducible exact LeO.none _)
      | (with_reducible refine LeO.ite ?_ ?_)
      | (with_reducible refine LeO.bind ?_ (fun _ => ?_))
      | exact ih0 _ _ _ _ _ _ _ _ _ _
      | exact ih1 _ _ _ _ _ _ _ _ _ _ _ _ _ _
      | exact ih2 _ _ _ _ _ _ _ _ _ _
      | exact num_Wide_Ceil.mono _ _ _ _
      | exact pluvialref01_Mul.mono _ _ _
      | exact LeO.none _
      | refine LeO.ite ?_ ?_
      | refine LeO.bind ?_ (fun _ => ?_)
    · intro y0 y1 y2 y3 y4 y5 y6 y7 y8 y9 y10 y11 y12 y13
      unfold pluviallaw01_NumWides.j1
      repeat' first
      | (with_reducible exact ih0 _ _ _ _ _ _ _ _ _ _)
      | (with_reducible exact ih1 _ _ _ _ _ _ _ _ _ _ _ _ _ _)
      | (with_reducible exact ih2 _ _ _ _ _ _ _ _ _ _)
      | (with_reducible exact num_Wide_Ceil.mono _ _ _ _)
      | (with_reducible exact pluvialref01_Mul.mono _ _ _)
      | (with_reducible exact LeO.refl _)
      | (with_reducible exact LeO.none _)
      | (with_reducible refine LeO.ite ?_ ?_)
      | (with_reducible refine LeO.bind ?_ (fun _ => ?_))
      | exact ih0 _ _ _ _ _ _ _ _ _ _
      | exact ih1 _ _ _ _ _ _ _ _ _ _ _ _ _ _
      | exact ih2 _ _ _ _ _ _ _ _ _ _
      | exact num_Wide_Ceil.mono _ _ _ _
      | exact pluvialref01_Mul.mono _ _ _
      | exact LeO.none _
      | refine LeO.ite ?_ ?_
      | refine LeO.bind ?_ (fun _ => ?_)
    · intro y0 y1 y2 y3 y4 y5 y6 y7 y8 y9
      unfold pluviallaw01_NumWides.j2
      repeat' first
      | (with_reducible exact ih0 _ _ _ _ _ _ _ _ _ _)
      | (with_reducible exact ih1 _ _ _ _ _ _ _ _ _ _ _ _ _ _)
      | (with_reducible exact ih2 _ _ _ _ _ _ _ _ _ _)
      | (with_reducible exact num_Wide_Ceil.mono _ _ _ _)
      | (with_reducible exact pluvialref01_Mul.mono _ _ _)
      | (with_reducible exact LeO.refl _)
      | (with_reducible exact LeO.none _)
      | (with_reducible refine LeO.ite ?_ ?_)
      | (with_reducible refine LeO.bind ?_ (fun _ => ?_))
      | exact ih0 _ _ _ _ _ _ _ _ _ _
      | exact ih1 _ _ _ _ _ _ _ _ _ _ _ _ _ _
      | exact ih2 _ _ _ _ _ _ _ _ _ _
      | exact num_Wide_Ceil.mono _ _ _ _
      | exact pluvialref01_Mul.mono _ _ _
      | exact LeO.none _
      | refine LeO.ite ?_ ?_
      | refine LeO.bind ?_ (fun _ => ?_)
theorem pluviallaw01_NumWides.mono : ∀ a0 a1 a2 a3 a4 k, LeO (pluviallaw01_NumWides.f k a0 a1 a2 a3 a4) (pluviallaw01_NumWides.f (k + 1) a0 a1 a2 a3 a4) := by
  intro a0 a1 a2 a3 a4 k
  obtain ⟨ih0, ih1, ih2⟩ := pluviallaw01_NumWides.mono_l k
  unfold pluviallaw01_NumWides.f
  repeat' first
      | (with_reducible exact ih0 _ _ _ _ _ _ _ _ _ _)
      | (with_reducible exact ih1 _ _ _ _ _ _ _ _ _ _ _ _ _ _)
      | (with_reducible exact ih2 _ _ _ _ _ _ _ _ _ _)
      | (with_reducible exact num_Wide_Ceil.mono _ _ _ _)
      | (with_reducible exact pluvialref01_Mul.mono _ _ _)
      | (with_reducible exact LeO.refl _)
      | (with_reducible exact LeO.none _)
      | (with_reducible refine LeO.ite ?_ ?_)
      | (with_reducible refine LeO.bind ?_ (fun _ => ?_))
      | exact ih0 _ _ _ _ _ _ _ _ _ _
      | exact ih1 _ _ _ _ _ _ _ _ _ _ _ _ _ _
      | exact ih2 _ _ _ _ _ _ _ _ _ _
      | exact num_Wide_Ceil.mono _ _ _ _
      | exact pluvialref01_Mul.mono _ _ _
      | exact LeO.none _
      | refine LeO.ite ?_ ?_
      | refine LeO.bind ?_ (fun _ => ?_)
set_option maxHeartbeats 8000000 in
set_option maxRecDepth 100000 in
theorem pluviallaw01_NumWides.calls (k : Nat) (a0 : Int) (a1 : Int) (a2 : Int) (a3 : Int) (a4 : Int) (r : Bool) (w : World) (h : pluviallaw01_NumWides.f k a0 a1 a2 a3 a4 = some r) :
    Calls Try.prog 5 #[.int .u64 a0, .int .u64 a1, .int .u64 a2, .int .u64 a3, .int .u64 a4] w fun e w' => e = .returned (.bool r) ∧ Below w.heap.size w w' := by
  have hu32 := Try.underlying32
  have HB := Aside0.mk (Below.refl w.heap.size w)
  have H : ((num_Mul.f a0 a1).bind fun bt148 => ((num_Mul.f a2 a3).bind fun bt150 => ((pluvialref01_Mul.f k a0 a1).bind fun bt154 => ((pluvialref01_Mul.f k a2 a3).bind fun bt156 => (if bt148.1 = bt154.1 then (if bt148.2 = bt154.2 then ((num_Wide_Less.f bt148.1 bt148.2 bt150.1 bt150.2).bind fun t158 => ((pluvialref01_Less.f bt154.1 bt154.2 bt156.1 bt156.2).bind fun t159 => (pluviallaw01_NumWides.j0 k a0 a1 a2 a3 a4 bt154.1 bt154.2 (t158 != t159) bt148.1 bt148.2))) else (pluviallaw01_NumWides.j0 k a0 a1 a2 a3 a4 bt154.1 bt154.2 true bt148.1 bt148.2)) else (pluviallaw01_NumWides.j0 k a0 a1 a2 a3 a4 bt154.1 bt154.2 true bt148.1 bt148.2)))))) = some r := h
  clear h
  replace H := Option.bind_eq_some_iff.mp H
  obtain ⟨⟨t148, t149⟩, A60, H⟩ := H
  replace H : ((num_Mul.f a2 a3).bind fun bt150 => ((pluvialref01_Mul.f k a0 a1).bind fun bt154 => ((pluvialref01_Mul.f k a2 a3).bind fun bt156 => (if t148 = bt154.1 then (if t149 = bt154.2 then ((num_Wide_Less.f t148 t149 bt150.1 bt150.2).bind fun t158 => ((pluvialref01_Less.f bt154.1 bt154.2 bt156.1 bt156.2).bind fun t159 => (pluviallaw01_NumWides.j0 k a0 a1 a2 a3 a4 bt154.1 bt154.2 (t158 != t159) t148 t149))) else (pluviallaw01_NumWides.j0 k a0 a1 a2 a3 a4 bt154.1 bt154.2 true t148 t149)) else (pluviallaw01_NumWides.j0 k a0 a1 a2 a3 a4 bt154.1 bt154.2 true t148 t149))))) = some r := H
  have A6 := Aside0.mk A60
  clear A60
  replace H := Option.bind_eq_some_iff.mp H
  obtain ⟨⟨t150, t151⟩, A70, H⟩ := H
  replace H : ((pluvialref01_Mul.f k a0 a1).bind fun bt154 => ((pluvialref01_Mul.f k a2 a3).bind fun bt156 => (if t148 = bt154.1 then (if t149 = bt154.2 then ((num_Wide_Less.f t148 t149 t150 t151).bind fun t158 => ((pluvialref01_Less.f bt154.1 bt154.2 bt156.1 bt156.2).bind fun t159 => (pluviallaw01_NumWides.j0 k a0 a1 a2 a3 a4 bt154.1 bt154.2 (t158 != t159) t148 t149))) else (pluviallaw01_NumWides.j0 k a0 a1 a2 a3 a4 bt154.1 bt154.2 true t148 t149)) else (pluviallaw01_NumWides.j0 k a0 a1 a2 a3 a4 bt154.1 bt154.2 true t148 t149)))) = some r := H
  have A7 := Aside0.mk A70
  clear A70
  replace H := Option.bind_eq_some_iff.mp H
  obtain ⟨⟨t154, t155⟩, A80, H⟩ := H
  replace H : ((pluvialref01_Mul.f k a2 a3).bind fun bt156 => (if t148 = t154 then (if t149 = t155 then ((num_Wide_Less.f t148 t149 t150 t151).bind fun t158 => ((pluvialref01_Less.f t154 t155 bt156.1 bt156.2).bind fun t159 => (pluviallaw01_NumWides.j0 k a0 a1 a2 a3 a4 t154 t155 (t158 != t159) t148 t149))) else (pluviallaw01_NumWides.j0 k a0 a1 a2 a3 a4 t154 t155 true t148 t149)) else (pluviallaw01_NumWides.j0 k a0 a1 a2 a3 a4 t154 t155 true t148 t149))) = some r := H
  have A8 := Aside0.mk A80
  clear A80
  replace H := Option.bind_eq_some_iff.mp H
  obtain ⟨⟨t156, t157⟩, A90, H⟩ := H
  replace H : (if t148 = t154 then (if t149 = t155 then ((num_Wide_Less.f t148 t149 t150 t151).bind fun t158 => ((pluvialref01_Less.f t154 t155 t156 t157).bind fun t159 => (pluviallaw01_NumWides.j0 k a0 a1 a2 a3 a4 t154 t155 (t158 != t159) t148 t149))) else (pluviallaw01_NumWides.j0 k a0 a1 a2 a3 a4 t154 t155 true t148 t149)) else (pluviallaw01_NumWides.j0 k a0 a1 a2 a3 a4 t154 t155 true t148 t149)) = some r := H
  have A9 := Aside0.mk A90
  clear A90
  have HC10 := Aside0.mk H
  clear H
  go_enter Try.func5, Try.ntmps5
  go_upto_region 4 with (first | ((with_reducible refine gate_callee (f := 16) rfl ?_); refine goesL_ (some 32) rfl rfl Try.func16 (by kernel_rfl) rfl #[.int .u64 a0, .int .u64 a1] rfl (by (try simp only [List.map_toArray, List.map_cons, List.map_nil]); first | done | rfl | (simp only [List.length_drop, List.length_take]; rfl)) ?_; (with_reducible refine (num_Mul.calls a0 a1 t148 t149 _ A6.out).mono ?_); rintro e w11 ⟨rfl, hb⟩; refine ⟨_, rfl, ?_⟩; have n0_ := Aside0.mk (below_step (by repeat (first | (with_reducible first | exact HB.out | apply below_alloc | apply pw_below_drewN | apply below_drew1) | exact HB.out)) hb); clear HB; have HB := n0_; clear n0_; (try clear hb); (try clear hb2); (try clear hk); (try clear hi)) | ((with_reducible refine gate_callee (f := 16) rfl ?_); refine goesL_ (some 35) rfl rfl Try.func16 (by kernel_rfl) rfl #[.int .u64 a2, .int .u64 a3] rfl (by (try simp only [List.map_toArray, List.map_cons, List.map_nil]); first | done | rfl | (simp only [List.length_drop, List.length_take]; rfl)) ?_; (with_reducible refine (num_Mul.calls a2 a3 t150 t151 _ A7.out).mono ?_); rintro e w12 ⟨rfl, hb⟩; refine ⟨_, rfl, ?_⟩; have n0_ := Aside0.mk (below_step (by repeat (first | (with_reducible first | exact HB.out | apply below_alloc | apply pw_below_drewN | apply below_drew1) | exact HB.out)) hb); clear HB; have HB := n0_; clear n0_; (try clear hb); (try clear hb2); (try clear hk); (try clear hi)) | ((with_reducible refine gate_dst (N := 11) rfl ?_); refine box_event ?hg (N := 11) ?hd (cs := #[.int .u64 0, .int .u64 0]) (t := 32) ?hr ?_; (case hd => rfl); (case hg => rfl); (case hr => first | (go_simp; done) | (go_simp; rfl)); intro gb152 hg w13 hbox hb; have n0_ := Aside0.mk (below_step (by repeat (first | (with_reducible first | exact HB.out | apply below_alloc | apply pw_below_drewN | apply below_drew1) | exact HB.out)) hb); have n1_ := Aside0.mk (hbox); have n2_ := Aside0.mk ((by rw [hg]; exact (below_size (by repeat (first | (with_reducible first | exact HB.out | apply below_alloc | apply pw_below_drewN | apply below_drew1) | exact HB.out))) : w.heap.size ≤ gb152)); have n3_ := Aside0.mk ((by rw [hg]; exact (below_size (by repeat (first | (with_reducible first | exact HB.out | apply below_alloc | apply pw_below_drewN | apply below_drew1) | exact HB.out))) : w.heap.size ≤ gb152)); clear HB; have HB := n0_; have BK152 := n1_; have GW152 := n2_; have GE152 := n3_; clear n0_ n1_ n2_ n3_; clear hb hbox hg) | ((with_reducible refine gate_dst (N := 12) rfl ?_); refine box_event ?hg (N := 12) ?hd (cs := #[.int .u64 0, .int .u64 0]) (t := 32) ?hr ?_; (case hd => rfl); (case hg => rfl); (case hr => first | (go_simp; done) | (go_simp; rfl)); intro gb153 hg w14 hbox hb; have n0_ := Aside0.mk (blk_below (g := gb152) (o := .cells #[.int .u64 0, .int .u64 0] 32 (0, 0)) (by (with_reducible repeat (first | refine blk_drewN ?_ _ | refine blk_drew ?_ | refine blk_alloc ?_ _)); exact BK152.out) hb); have n1_ := Aside0.mk (below_step (by repeat (first | (with_reducible first | exact HB.out | apply below_alloc | apply pw_below_drewN | apply below_drew1 | refine below_set ?_ GE152.out) | exact HB.out)) hb); have n2_ := Aside0.mk (hbox); have n3_ := Aside0.mk ((by rw [hg]; exact (below_size (by repeat (first | (with_reducible first | exact HB.out | apply below_alloc | apply pw_below_drewN | apply below_drew1 | refine below_set ?_ GE152.out) | exact HB.out))) : w.heap.size ≤ gb153)); have n4_ := Aside0.mk ((by rw [hg]; exact (below_size (by repeat (first | (with_reducible first | exact HB.out | apply below_alloc | apply pw_below_drewN | apply below_drew1 | refine below_set ?_ GE152.out) | exact HB.out))) : w.heap.size ≤ gb153)); have n5_ := Aside0.mk ((by rw [hg]; exact Nat.ne_of_lt (blk_lt (g := gb152) (o := .cells #[.int .u64 0, .int .u64 0] 32 (0, 0)) (by (with_reducible repeat (first | refine blk_drewN ?_ _ | refine blk_drew ?_ | refine blk_alloc ?_ _)); exact BK152.out)) : gb152 ≠ gb153)); have n6_ := Aside0.mk ((by rw [hg]; exact Nat.ne_of_gt (blk_lt (g := gb152) (o := .cells #[.int .u64 0, .int .u64 0] 32 (0, 0)) (by (with_reducible repeat (first | refine blk_drewN ?_ _ | refine blk_drew ?_ | refine blk_alloc ?_ _)); exact BK152.out)) : gb153 ≠ gb152)); clear BK152; clear HB; have BK152 := n0_; have HB := n1_; have BK153 := n2_; have GW153 := n3_; have GE153 := n4_; have NB152_153 := n5_; have NB153_152 := n6_; clear n0_ n1_ n2_ n3_ n4_ n5_ n6_; clear hb hbox hg; have hnb15 := NB152_153.out; have hnc15 := NB153_152.out; have hcz16_0 : w14.cell? ⟨gb152, 0, none⟩ = some (.int .u64 0) := (blk_cell BK152.out 0).trans rfl; have hcz16_1 : w14.cell? ⟨gb152, 1, none⟩ = some (.int .u64 0) := (blk_cell BK152.out 1).trans rfl; have hfz16_0 := blk_frozen BK152.out 0; have hfz16_1 := blk_frozen BK152.out 1; have hsz16_1 : ∀ A_ B_ : Value, ((w14.setCell ⟨gb152, 0, none⟩ A_).setCell ⟨gb152, 1, none⟩ B_).cell? ⟨gb152, 1, none⟩ = some B_ := fun A_ B_ => World.cell?_setCell_same _ _ _ ((World.cell?_setCell_other _ _ _ _ (by simp)).trans hcz16_1); have hcz17_0 : w14.cell? ⟨gb153, 0, none⟩ = some (.int .u64 0) := (blk_cell BK153.out 0).trans rfl; have hcz17_1 : w14.cell? ⟨gb153, 1, none⟩ = some (.int .u64 0) := (blk_cell BK153.out 1).trans rfl; have hfz17_0 := blk_frozen BK153.out 0; have hfz17_1 := blk_frozen BK153.out 1; have hsz17_1 : ∀ A_ B_ : Value, ((w14.setCell ⟨gb153, 0, none⟩ A_).setCell ⟨gb153, 1, none⟩ B_).cell? ⟨gb153, 1, none⟩ = some B_ := fun A_ B_ => World.cell?_setCell_same _ _ _ ((World.cell?_setCell_other _ _ _ _ (by simp)).trans hcz17_1)) | ((with_reducible refine gate_callee (f := 17) rfl ?_); refine goesL_ (some 39) rfl rfl Try.func17 (by kernel_rfl) rfl #[.int .u64 a0, .int .u64 a1] rfl (by (try simp only [List.map_toArray, List.map_cons, List.map_nil]); first | done | rfl | (simp only [List.length_drop, List.length_take]; rfl)) ?_; (with_reducible refine (pluvialref01_Mul.calls k a0 a1 t154 t155 _ A8.out).mono ?_); rintro e w18 ⟨rfl, hb⟩; refine ⟨_, rfl, ?_⟩; have n0_ := Aside0.mk (blk_below (g := gb152) (o := .cells #[.int .u64 t148, .int .u64 t149] 32 (0, 0)) (by (with_reducible repeat (first | refine blk_drewN ?_ _ | refine blk_drew ?_ | refine blk_alloc ?_ _)); refine blk_far ?_ NB152_153.out _; (with_reducible repeat (first | refine blk_drewN ?_ _ | refine blk_drew ?_ | refine blk_alloc ?_ _)); refine blk_far ?_ NB152_153.out _; (with_reducible repeat (first | refine blk_drewN ?_ _ | refine blk_drew ?_ | refine blk_alloc ?_ _)); refine blk_put (cs := #[.int .u64 t148, .int .u64 0]) ?_ 1 _ rfl; (with_reducible repeat (first | refine blk_drewN ?_ _ | refine blk_drew ?_ | refine blk_alloc ?_ _)); refine blk_put (cs := #[.int .u64 0, .int .u64 0]) ?_ 0 _ rfl; (with_reducible repeat (first | refine blk_drewN ?_ _ | refine blk_drew ?_ | refine blk_alloc ?_ _)); exact BK152.out) hb); have n1_ := Aside0.mk (blk_below (g := gb153) (o := .cells #[.int .u64 t150, .int .u64 t151] 32 (0, 0)) (by (with_reducible repeat (first | refine blk_drewN ?_ _ | refine blk_drew ?_ | refine blk_alloc ?_ _)); refine blk_put (cs := #[.int .u64 t150, .int .u64 0]) ?_ 1 _ rfl; (with_reducible repeat (first | refine blk_drewN ?_ _ | refine blk_drew ?_ | refine blk_alloc ?_ _)); refine blk_put (cs := #[.int .u64 0, .int .u64 0]) ?_ 0 _ rfl; (with_reducible repeat (first | refine blk_drewN ?_ _ | refine blk_drew ?_ | refine blk_alloc ?_ _)); refine blk_far ?_ NB153_152.out _; (with_reducible repeat (first | refine blk_drewN ?_ _ | refine blk_drew ?_ | refine blk_alloc ?_ _)); refine blk_far ?_ NB153_152.out _; (with_reducible repeat (first | refine blk_drewN ?_ _ | refine blk_drew ?_ | refine blk_alloc ?_ _)); exact BK153.out) hb); have n2_ := Aside0.mk (below_step (by repeat (first | (with_reducible first | exact HB.out | apply below_alloc | apply pw_below_drewN | apply below_drew1 | refine below_set ?_ GE152.out | refine below_set ?_ GE153.out) | exact HB.out)) hb); clear BK152; clear BK153; clear HB; have BK152 := n0_; have BK153 := n1_; have HB := n2_; clear n0_ n1_ n2_; (try clear hb); (try clear hb2); (try clear hk); (try clear hi)) | ((with_reducible refine gate_callee (f := 17) rfl ?_); refine goesL_ (some 45) rfl rfl Try.func17 (by kernel_rfl) rfl #[.int .u64 a2, .int .u64 a3] rfl (by (try simp only [List.map_toArray, List.map_cons, List.map_nil]); first | done | rfl | (simp only [List.length_drop, List.length_take]; rfl)) ?_; (with_reducible refine (pluvialref01_Mul.calls k a2 a3 t156 t157 _ A9.out).mono ?_); rintro e w19 ⟨rfl, hb⟩; refine ⟨_, rfl, ?_⟩; have n0_ := Aside0.mk (blk_below (g := gb152) (o := .cells #[.int .u64 t148, .int .u64 t149] 32 (0, 0)) (by (with_reducible repeat (first | refine blk_drewN ?_ _ | refine blk_drew ?_ | refine blk_alloc ?_ _)); exact BK152.out) hb); have n1_ := Aside0.mk (blk_below (g := gb153) (o := .cells #[.int .u64 t150, .int .u64 t151] 32 (0, 0)) (by (with_reducible repeat (first | refine blk_drewN ?_ _ | refine blk_drew ?_ | refine blk_alloc ?_ _)); exact BK153.out) hb); have n2_ := Aside0.mk (below_step (by repeat (first | (with_reducible first | exact HB.out | apply below_alloc | apply pw_below_drewN | apply below_drew1 | refine below_set ?_ GE152.out | refine below_set ?_ GE153.out) | exact HB.out)) hb); clear BK152; clear BK153; clear HB; have BK152 := n0_; have BK153 := n1_; have HB := n2_; clear n0_ n1_ n2_; (try clear hb); (try clear hb2); (try clear hk); (try clear hi)))
  (try simp only [Act.put, List.setIfInBounds_toArray, List.set_cons_zero, List.set_cons_succ])
  go_cut [68] (fun v68 wc => ∃ (kq : Nat) (x68_9 : Bool), v68 = .bool x68_9 ∧ Aside0 (pluviallaw01_NumWides.j0 kq a0 a1 a2 a3 a4 t154 t155 x68_9 t148 t149 = some r) ∧ Aside0 (kq ≤ k) ∧ Aside0 (wc.heap[gb152]? = some (.cells #[.int .u64 t148, .int .u64 t149] 32 (0, 0))) ∧ Aside0 (wc.heap[gb153]? = some (.cells #[.int .u64 t150, .int .u64 t151] 32 (0, 0))) ∧ Aside0 (Below w.heap.size w wc))
  case first =>
    have H := HC10.out
    clear HC10
    by_cases c20 : t148 = t154
    · rw [if_pos c20] at H
      have c20b0 : (t148 == t154) = true := beq_iff_eq.mpr c20
      have c20b1 : (t148 != t154) = false := bne_eq_false_iff_eq.mpr c20
      clear c20
      (first | rw [c20b0] | (simp only [i64_w, i32_w]; rw [c20b0]) | skip)
      by_cases c21 : t149 = t155
      · rw [if_pos c21] at H
        have c21b0 : (t149 == t155) = true := beq_iff_eq.mpr c21
        have c21b1 : (t149 != t155) = false := bne_eq_false_iff_eq.mpr c21
        clear c21
        replace H := Option.bind_eq_some_iff.mp H
        obtain ⟨t158, A220, H⟩ := H
        replace H : ((pluvialref01_Less.f t154 t155 t156 t157).bind fun t159 => (pluviallaw01_NumWides.j0 k a0 a1 a2 a3 a4 t154 t155 (t158 != t159) t148 t149)) = some r := H
        have A22 := Aside0.mk A220
        clear A220
        replace H := Option.bind_eq_some_iff.mp H
        obtain ⟨t159, A230, H⟩ := H
        replace H : (pluviallaw01_NumWides.j0 k a0 a1 a2 a3 a4 t154 t155 (t158 != t159) t148 t149) = some r := H
        have A23 := Aside0.mk A230
        clear A230
        have H' := Aside0.mk H
        clear H
        have hnb24 := NB152_153.out
        have hnc24 := NB153_152.out
        have hcz25_0 : w19.cell? ⟨gb152, 0, none⟩ = some (.int .u64 t148) := (blk_cell BK152.out 0).trans rfl
        have hcz25_1 : w19.cell? ⟨gb152, 1, none⟩ = some (.int .u64 t149) := (blk_cell BK152.out 1).trans rfl
        have hfz25_0 := blk_frozen BK152.out 0
        have hfz25_1 := blk_frozen BK152.out 1
        have hsz25_1 : ∀ A_ B_ : Value, ((w19.setCell ⟨gb152, 0, none⟩ A_).setCell ⟨gb152, 1, none⟩ B_).cell? ⟨gb152, 1, none⟩ = some B_ := fun A_ B_ => World.cell?_setCell_same _ _ _ ((World.cell?_setCell_other _ _ _ _ (by simp)).trans hcz25_1)
        have hcz26_0 : w19.cell? ⟨gb153, 0, none⟩ = some (.int .u64 t150) := (blk_cell BK153.out 0).trans rfl
        have hcz26_1 : w19.cell? ⟨gb153, 1, none⟩ = some (.int .u64 t151) := (blk_cell BK153.out 1).trans rfl
        have hfz26_0 := blk_frozen BK153.out 0
        have hfz26_1 := blk_frozen BK153.out 1
        have hsz26_1 : ∀ A_ B_ : Value, ((w19.setCell ⟨gb153, 0, none⟩ A_).setCell ⟨gb153, 1, none⟩ B_).cell? ⟨gb153, 1, none⟩ = some B_ := fun A_ B_ => World.cell?_setCell_same _ _ _ ((World.cell?_setCell_other _ _ _ _ (by simp)).trans hcz26_1)
        go_wp2_with (first | (go_at_call 18; (with_reducible refine (num_Wide_Less.calls t148 t149 t150 t151 t158 _ A22.out).mono ?_); rintro e w27 ⟨rfl, hb⟩; have n0_ := Aside0.mk (blk_below (g := gb152) (o := .cells #[.int .u64 t148, .int .u64 t149] 32 (0, 0)) (by (with_reducible repeat (first | refine blk_drewN ?_ _ | refine blk_drew ?_ | refine blk_alloc ?_ _)); exact BK152.out) hb); have n1_ := Aside0.mk (blk_below (g := gb153) (o := .cells #[.int .u64 t150, .int .u64 t151] 32 (0, 0)) (by (with_reducible repeat (first | refine blk_drewN ?_ _ | refine blk_drew ?_ | refine blk_alloc ?_ _)); exact BK153.out) hb); have n2_ := Aside0.mk (below_step (by repeat (first | (with_reducible first | exact HB.out | apply below_alloc | apply pw_below_drewN | apply below_drew1 | refine below_set ?_ GE152.out | refine below_set ?_ GE153.out) | exact HB.out)) hb); clear BK152; clear BK153; clear HB; have BK152 := n0_; have BK153 := n1_; have HB := n2_; clear n0_ n1_ n2_; (try clear hb); (try clear hb2); (try clear hk); (try clear hi)) | (go_at_call 19; (with_reducible refine (pluvialref01_Less.calls t154 t155 t156 t157 t159 _ A23.out).mono ?_); rintro e w' ⟨rfl, ⟨nd, rfl⟩⟩))
        go_meet
        case rel => exact ⟨_, ((t158 != t159)), (by first | rfl | (simp; done) | (simp [*]; done)), H', ⟨by first | omega | exact Nat.le_refl _⟩, ⟨by (with_reducible repeat (first | refine blk_drewN ?_ _ | refine blk_drew ?_ | refine blk_alloc ?_ _)); exact BK152.out⟩, ⟨by (with_reducible repeat (first | refine blk_drewN ?_ _ | refine blk_drew ?_ | refine blk_alloc ?_ _)); exact BK153.out⟩, ⟨by repeat (first | (with_reducible first | exact HB.out | apply below_alloc | apply pw_below_drewN | apply below_drew1 | refine below_set ?_ GE152.out | refine below_set ?_ GE153.out) | exact HB.out)⟩⟩
      · rw [if_neg c21] at H
        have c21b0 : (t149 == t155) = false := beq_eq_false_iff_ne.mpr c21
        have c21b1 : (t149 != t155) = true := bne_iff_ne.mpr c21
        have H' := Aside0.mk H
        clear H
        have hnb28 := NB152_153.out
        have hnc28 := NB153_152.out
        have hcz29_0 : w19.cell? ⟨gb152, 0, none⟩ = some (.int .u64 t148) := (blk_cell BK152.out 0).trans rfl
        have hcz29_1 : w19.cell? ⟨gb152, 1, none⟩ = some (.int .u64 t149) := (blk_cell BK152.out 1).trans rfl
        have hfz29_0 := blk_frozen BK152.out 0
        have hfz29_1 := blk_frozen BK152.out 1
        have hsz29_1 : ∀ A_ B_ : Value, ((w19.setCell ⟨gb152, 0, none⟩ A_).setCell ⟨gb152, 1, none⟩ B_).cell? ⟨gb152, 1, none⟩ = some B_ := fun A_ B_ => World.cell?_setCell_same _ _ _ ((World.cell?_setCell_other _ _ _ _ (by simp)).trans hcz29_1)
        go_wp2
        go_meet
        case rel => exact ⟨_, (true), (by first | rfl | (simp; done) | (simp [*]; done)), H', ⟨by first | omega | exact Nat.le_refl _⟩, ⟨by (with_reducible repeat (first | refine blk_drewN ?_ _ | refine blk_drew ?_ | refine blk_alloc ?_ _)); exact BK152.out⟩, ⟨by (with_reducible repeat (first | refine blk_drewN ?_ _ | refine blk_drew ?_ | refine blk_alloc ?_ _)); exact BK153.out⟩, ⟨by repeat (first | (with_reducible first | exact HB.out | apply below_alloc | apply pw_below_drewN | apply below_drew1 | refine below_set ?_ GE152.out | refine below_set ?_ GE153.out) | exact HB.out)⟩⟩
    · rw [if_neg c20] at H
      have c20b0 : (t148 == t154) = false := beq_eq_false_iff_ne.mpr c20
      have c20b1 : (t148 != t154) = true := bne_iff_ne.mpr c20
      (first | rw [c20b0] | (simp only [i64_w, i32_w]; rw [c20b0]) | skip)
      have H' := Aside0.mk H
      clear H
      have hnb30 := NB152_153.out
      have hnc30 := NB153_152.out
      have hcz31_0 : w19.cell? ⟨gb152, 0, none⟩ = some (.int .u64 t148) := (blk_cell BK152.out 0).trans rfl
      have hcz31_1 : w19.cell? ⟨gb152, 1, none⟩ = some (.int .u64 t149) := (blk_cell BK152.out 1).trans rfl
      have hfz31_0 := blk_frozen BK152.out 0
      have hfz31_1 := blk_frozen BK152.out 1
      have hsz31_1 : ∀ A_ B_ : Value, ((w19.setCell ⟨gb152, 0, none⟩ A_).setCell ⟨gb152, 1, none⟩ B_).cell? ⟨gb152, 1, none⟩ = some B_ := fun A_ B_ => World.cell?_setCell_same _ _ _ ((World.cell?_setCell_other _ _ _ _ (by simp)).trans hcz31_1)
      go_wp2
      go_meet
      case rel => exact ⟨_, (true), (by first | rfl | (simp; done) | (simp [*]; done)), H', ⟨by first | omega | exact Nat.le_refl _⟩, ⟨by (with_reducible repeat (first | refine blk_drewN ?_ _ | refine blk_drew ?_ | refine blk_alloc ?_ _)); exact BK152.out⟩, ⟨by (with_reducible repeat (first | refine blk_drewN ?_ _ | refine blk_drew ?_ | refine blk_alloc ?_ _)); exact BK153.out⟩, ⟨by repeat (first | (with_reducible first | exact HB.out | apply below_alloc | apply pw_below_drewN | apply below_drew1 | refine below_set ?_ GE152.out | refine below_set ?_ GE153.out) | exact HB.out)⟩⟩
  case rest =>
    clear HC10
    try clear c1
    try clear c2
    try clear p2
    try clear c3
    try clear c5
    try clear c15
    try clear c16
    try clear c17
    try clear c20
    try clear c20b0
    try clear c20b1
    try clear c21
    try clear c21b0
    try clear c21b1
    try clear c24
    try clear c28
    try clear c30
    try clear hcz16_0
    try clear hcz16_1
    try clear hcz17_0
    try clear hcz17_1
    try clear hcz25_0
    try clear hcz25_1
    try clear hcz26_0
    try clear hcz26_1
    try clear hcz29_0
    try clear hcz29_1
    try clear hcz31_0
    try clear hcz31_1
    try clear hfz16_0
    try clear hfz16_1
    try clear hfz17_0
    try clear hfz17_1
    try clear hfz25_0
    try clear hfz25_1
    try clear hfz26_0
    try clear hfz26_1
    try clear hfz29_0
    try clear hfz29_1
    try clear hfz31_0
    try clear hfz31_1
    obtain ⟨kq, x68_9, rfl, HA, HJ9, BK152, BK153, HB⟩ := hcut
    cases kq with
    | zero => exact absurd HA.out (by simp [pluviallaw01_NumWides.j0])
    | succ kj9 =>
      have H := HA.out
      clear HA
      simp only [pluviallaw01_NumWides.j0] at H
      by_cases c32 : x68_9 = true
      · subst c32
        have H1 : (some false) = some r := by rw [if_pos rfl] at H; exact H
        clear H
        have H := H1
        clear H1
        obtain rfl := Option.some.inj H
        go_wp2
        go_ret
        exact ⟨by first | rfl | (simp [errW_none, errW_some] <;> rfl) | (simp [*, errW_none, errW_some] <;> rfl), by repeat (first | (with_reducible first | exact HB.out | apply below_alloc | apply pw_below_drewN | apply below_drew1 | refine below_set ?_ GE152.out | refine below_set ?_ GE153.out) | exact HB.out)⟩
      · replace c32 := Bool.eq_false_iff.mpr c32
        subst c32
        have H1 : ((pluvialref01_Mul.f kj9 a0 a3).bind fun bt160 => ((pluvialref01_Mul.f kj9 a2 a1).bind fun bt162 => ((pluvialref01_Less.f bt160.1 bt160.2 bt162.1 bt162.2).bind fun t164 => (if t164 = true then (pluviallaw01_NumWides.j1 kj9 a0 a1 a2 a3 a4 t154 t155 bt160.1 bt160.2 bt162.1 bt162.2 (-1) t148 t149) else (pluviallaw01_NumWides.j1 kj9 a0 a1 a2 a3 a4 t154 t155 bt160.1 bt160.2 bt162.1 bt162.2 0 t148 t149))))) = some r := by rw [if_neg (show ¬ (false = true) by decide)] at H; exact H
        clear H
        have H := H1
        clear H1
        replace H := Option.bind_eq_some_iff.mp H
        obtain ⟨⟨t160, t161⟩, A330, H⟩ := H
        replace H : ((pluvialref01_Mul.f kj9 a2 a1).bind fun bt162 => ((pluvialref01_Less.f t160 t161 bt162.1 bt162.2).bind fun t164 => (if t164 = true then (pluviallaw01_NumWides.j1 kj9 a0 a1 a2 a3 a4 t154 t155 t160 t161 bt162.1 bt162.2 (-1) t148 t149) else (pluviallaw01_NumWides.j1 kj9 a0 a1 a2 a3 a4 t154 t155 t160 t161 bt162.1 bt162.2 0 t148 t149)))) = some r := H
        have A33 := Aside0.mk A330
        clear A330
        replace H := Option.bind_eq_some_iff.mp H
        obtain ⟨⟨t162, t163⟩, A340, H⟩ := H
        replace H : ((pluvialref01_Less.f t160 t161 t162 t163).bind fun t164 => (if t164 = true then (pluviallaw01_NumWides.j1 kj9 a0 a1 a2 a3 a4 t154 t155 t160 t161 t162 t163 (-1) t148 t149) else (pluviallaw01_NumWides.j1 kj9 a0 a1 a2 a3 a4 t154 t155 t160 t161 t162 t163 0 t148 t149))) = some r := H
        have A34 := Aside0.mk A340
        clear A340
        replace H := Option.bind_eq_some_iff.mp H
        obtain ⟨t164, A350, H⟩ := H
        replace H : (if t164 = true then (pluviallaw01_NumWides.j1 kj9 a0 a1 a2 a3 a4 t154 t155 t160 t161 t162 t163 (-1) t148 t149) else (pluviallaw01_NumWides.j1 kj9 a0 a1 a2 a3 a4 t154 t155 t160 t161 t162 t163 0 t148 t149)) = some r := H
        have A35 := Aside0.mk A350
        clear A350
        have HC36 := Aside0.mk H
        clear H
        go_upto_if 85 with (first | ((with_reducible refine gate_callee (f := 17) rfl ?_); refine goesL_ (some 72) rfl rfl Try.func17 (by kernel_rfl) rfl #[.int .u64 a0, .int .u64 a3] rfl (by (try simp only [List.map_toArray, List.map_cons, List.map_nil]); first | done | rfl | (simp only [List.length_drop, List.length_take]; rfl)) ?_; (with_reducible refine (pluvialref01_Mul.calls kj9 a0 a3 t160 t161 _ A33.out).mono ?_); rintro e w37 ⟨rfl, hb⟩; refine ⟨_, rfl, ?_⟩; have n0_ := Aside0.mk (blk_below (g := gb152) (o := .cells #[.int .u64 t148, .int .u64 t149] 32 (0, 0)) (by (with_reducible repeat (first | refine blk_drewN ?_ _ | refine blk_drew ?_ | refine blk_alloc ?_ _)); exact BK152.out) hb); have n1_ := Aside0.mk (blk_below (g := gb153) (o := .cells #[.int .u64 t150, .int .u64 t151] 32 (0, 0)) (by (with_reducible repeat (first | refine blk_drewN ?_ _ | refine blk_drew ?_ | refine blk_alloc ?_ _)); exact BK153.out) hb); have n2_ := Aside0.mk (below_step (by repeat (first | (with_reducible first | exact HB.out | apply below_alloc | apply pw_below_drewN | apply below_drew1 | refine below_set ?_ GE152.out | refine below_set ?_ GE153.out) | exact HB.out)) hb); clear BK152; clear BK153; clear HB; have BK152 := n0_; have BK153 := n1_; have HB := n2_; clear n0_ n1_ n2_; (try clear hb); (try clear hb2); (try clear hk); (try clear hi)) | ((with_reducible refine gate_callee (f := 17) rfl ?_); refine goesL_ (some 78) rfl rfl Try.func17 (by kernel_rfl) rfl #[.int .u64 a2, .int .u64 a1] rfl (by (try simp only [List.map_toArray, List.map_cons, List.map_nil]); first | done | rfl | (simp only [List.length_drop, List.length_take]; rfl)) ?_; (with_reducible refine (pluvialref01_Mul.calls kj9 a2 a1 t162 t163 _ A34.out).mono ?_); rintro e w38 ⟨rfl, hb⟩; refine ⟨_, rfl, ?_⟩; have n0_ := Aside0.mk (blk_below (g := gb152) (o := .cells #[.int .u64 t148, .int .u64 t149] 32 (0, 0)) (by (with_reducible repeat (first | refine blk_drewN ?_ _ | refine blk_drew ?_ | refine blk_alloc ?_ _)); exact BK152.out) hb); have n1_ := Aside0.mk (blk_below (g := gb153) (o := .cells #[.int .u64 t150, .int .u64 t151] 32 (0, 0)) (by (with_reducible repeat (first | refine blk_drewN ?_ _ | refine blk_drew ?_ | refine blk_alloc ?_ _)); exact BK153.out) hb); have n2_ := Aside0.mk (below_step (by repeat (first | (with_reducible first | exact HB.out | apply below_alloc | apply pw_below_drewN | apply below_drew1 | refine below_set ?_ GE152.out | refine below_set ?_ GE153.out) | exact HB.out)) hb); clear BK152; clear BK153; clear HB; have BK152 := n0_; have BK153 := n1_; have HB := n2_; clear n0_ n1_ n2_; (try clear hb); (try clear hb2); (try clear hk); (try clear hi)) | (go_at_call 19; (with_reducible refine (pluvialref01_Less.calls t160 t161 t162 t163 t164 _ A35.out).mono ?_); rintro e w' ⟨rfl, ⟨nd, rfl⟩⟩))
        (try simp only [Act.put, List.setIfInBounds_toArray, List.set_cons_zero, List.set_cons_succ])
        go_cut [21] (fun v21 wc => ∃ (kq : Nat) (x21_35 : Int), v21 = .int .i64 x21_35 ∧ Aside0 (pluviallaw01_NumWides.j1 kq a0 a1 a2 a3 a4 t154 t155 t160 t161 t162 t163 x21_35 t148 t149 = some r) ∧ Aside0 (kq ≤ kj9) ∧ Aside0 (wc.heap[gb152]? = some (.cells #[.int .u64 t148, .int .u64 t149] 32 (0, 0))) ∧ Aside0 (wc.heap[gb153]? = some (.cells #[.int .u64 t150, .int .u64 t151] 32 (0, 0))) ∧ Aside0 (Below w.heap.size w wc))
        case first =>
          have H := HC36.out
          clear HC36
          by_cases c39 : t164 = true
          · subst c39
            have H1 : (pluviallaw01_NumWides.j1 kj9 a0 a1 a2 a3 a4 t154 t155 t160 t161 t162 t163 (-1) t148 t149) = some r := by rw [if_pos rfl] at H; exact H
            clear H
            have H := H1
            clear H1
            have H' := Aside0.mk H
            clear H
            go_wp2
            go_meet
            case rel => exact ⟨_, ((-1)), (by first | rfl | (simp; done) | (simp [*]; done)), H', ⟨by have := HJ9.out; first | omega | exact Nat.le_refl _⟩, ⟨by (with_reducible repeat (first | refine blk_drewN ?_ _ | refine blk_drew ?_ | refine blk_alloc ?_ _)); exact BK152.out⟩, ⟨by (with_reducible repeat (first | refine blk_drewN ?_ _ | refine blk_drew ?_ | refine blk_alloc ?_ _)); exact BK153.out⟩, ⟨by repeat (first | (with_reducible first | exact HB.out | apply below_alloc | apply pw_below_drewN | apply below_drew1 | refine below_set ?_ GE152.out | refine below_set ?_ GE153.out) | exact HB.out)⟩⟩
          · replace c39 := Bool.eq_false_iff.mpr c39
            subst c39
            have H1 : (pluviallaw01_NumWides.j1 kj9 a0 a1 a2 a3 a4 t154 t155 t160 t161 t162 t163 0 t148 t149) = some r := by rw [if_neg (show ¬ (false = true) by decide)] at H; exact H
            clear H
            have H := H1
            clear H1
            have H' := Aside0.mk H
            clear H
            go_wp2
            go_meet
            case rel => exact ⟨_, (0), (by first | rfl | (simp; done) | (simp [*]; done)), H', ⟨by have := HJ9.out; first | omega | exact Nat.le_refl _⟩, ⟨by (with_reducible repeat (first | refine blk_drewN ?_ _ | refine blk_drew ?_ | refine blk_alloc ?_ _)); exact BK152.out⟩, ⟨by (with_reducible repeat (first | refine blk_drewN ?_ _ | refine blk_drew ?_ | refine blk_alloc ?_ _)); exact BK153.out⟩, ⟨by repeat (first | (with_reducible first | exact HB.out | apply below_alloc | apply pw_below_drewN | apply below_drew1 | refine below_set ?_ GE152.out | refine below_set ?_ GE153.out) | exact HB.out)⟩⟩
        case rest =>
          clear HC36
          try clear c1
          try clear c2
          try clear p2
          try clear c3
          try clear c5
          try clear c15
          try clear c16
          try clear c17
          try clear c20
          try clear c20b0
          try clear c20b1
          try clear c21
          try clear c21b0
          try clear c21b1
          try clear c24
          try clear c28
          try clear c30
          try clear c32
          try clear c39
          try clear hcz16_0
          try clear hcz16_1
          try clear hcz17_0
          try clear hcz17_1
          try clear hcz25_0
          try clear hcz25_1
          try clear hcz26_0
          try clear hcz26_1
          try clear hcz29_0
          try clear hcz29_1
          try clear hcz31_0
          try clear hcz31_1
          try clear hfz16_0
          try clear hfz16_1
          try clear hfz17_0
          try clear hfz17_1
          try clear hfz25_0
          try clear hfz25_1
          try clear hfz26_0
          try clear hfz26_1
          try clear hfz29_0
          try clear hfz29_1
          try clear hfz31_0
          try clear hfz31_1
          try clear p2
          obtain ⟨kq, x21_35, rfl, HA, HJ35, BK152, BK153, HB⟩ := hcut
          cases kq with
          | zero => exact absurd HA.out (by simp [pluviallaw01_NumWides.j1])
          | succ kj35 =>
            have H := HA.out
            clear HA
            simp only [pluviallaw01_NumWides.j1] at H
            replace H := Option.bind_eq_some_iff.mp H
            obtain ⟨t165, A400, H⟩ := H
            replace H : (if t165 = true then (pluviallaw01_NumWides.j2 kj35 a0 a1 a2 a3 a4 t154 t155 1 t148 t149) else (pluviallaw01_NumWides.j2 kj35 a0 a1 a2 a3 a4 t154 t155 x21_35 t148 t149)) = some r := H
            have A40 := Aside0.mk A400
            clear A400
            have HC41 := Aside0.mk H
            clear H
            go_upto_if 90 with (first | (go_at_call 19; (with_reducible refine (pluvialref01_Less.calls t162 t163 t160 t161 t165 _ A40.out).mono ?_); rintro e w' ⟨rfl, ⟨nd, rfl⟩⟩))
            (try simp only [Act.put, List.setIfInBounds_toArray, List.set_cons_zero, List.set_cons_succ])
            go_cut [21] (fun v21 wc => ∃ (kq : Nat) (x21_40 : Int), v21 = .int .i64 x21_40 ∧ Aside0 (pluviallaw01_NumWides.j2 kq a0 a1 a2 a3 a4 t154 t155 x21_40 t148 t149 = some r) ∧ Aside0 (kq ≤ kj35) ∧ Aside0 (wc.heap[gb152]? = some (.cells #[.int .u64 t148, .int .u64 t149] 32 (0, 0))) ∧ Aside0 (wc.heap[gb153]? = some (.cells #[.int .u64 t150, .int .u64 t151] 32 (0, 0))) ∧ Aside0 (Below w.heap.size w wc))
            case first =>
              have H := HC41.out
              clear HC41
              by_cases c42 : t165 = true
              · subst c42
                have H1 : (pluviallaw01_NumWides.j2 kj35 a0 a1 a2 a3 a4 t154 t155 1 t148 t149) = some r := by rw [if_pos rfl] at H; exact H
                clear H
                have H := H1
                clear H1
                have H' := Aside0.mk H
                clear H
                go_wp2
                go_meet
                case rel => exact ⟨_, (1), (by first | rfl | (simp; done) | (simp [*]; done)), H', ⟨by have := HJ9.out; have := HJ35.out; first | omega | exact Nat.le_refl _⟩, ⟨by (with_reducible repeat (first | refine blk_drewN ?_ _ | refine blk_drew ?_ | refine blk_alloc ?_ _)); exact BK152.out⟩, ⟨by (with_reducible repeat (first | refine blk_drewN ?_ _ | refine blk_drew ?_ | refine blk_alloc ?_ _)); exact BK153.out⟩, ⟨by repeat (first | (with_reducible first | exact HB.out | apply below_alloc | apply pw_below_drewN | apply below_drew1 | refine below_set ?_ GE152.out | refine below_set ?_ GE153.out) | exact HB.out)⟩⟩
              · replace c42 := Bool.eq_false_iff.mpr c42
                subst c42
                have H1 : (pluviallaw01_NumWides.j2 kj35 a0 a1 a2 a3 a4 t154 t155 x21_35 t148 t149) = some r := by rw [if_neg (show ¬ (false = true) by decide)] at H; exact H
                clear H
                have H := H1
                clear H1
                have H' := Aside0.mk H
                clear H
                go_wp2
                go_meet
                case rel => exact ⟨_, (x21_35), (by first | rfl | (simp; done) | (simp [*]; done)), H', ⟨by have := HJ9.out; have := HJ35.out; first | omega | exact Nat.le_refl _⟩, ⟨by (with_reducible repeat (first | refine blk_drewN ?_ _ | refine blk_drew ?_ | refine blk_alloc ?_ _)); exact BK152.out⟩, ⟨by (with_reducible repeat (first | refine blk_drewN ?_ _ | refine blk_drew ?_ | refine blk_alloc ?_ _)); exact BK153.out⟩, ⟨by repeat (first | (with_reducible first | exact HB.out | apply below_alloc | apply pw_below_drewN | apply below_drew1 | refine below_set ?_ GE152.out | refine below_set ?_ GE153.out) | exact HB.out)⟩⟩
            case rest =>
              clear HC41
              try clear c1
              try clear c2
              try clear p2
              try clear c3
              try clear c4
              try clear c5
              try clear c15
              try clear c16
              try clear c17
              try clear c20
              try clear c20b0
              try clear c20b1
              try clear c21
              try clear c21b0
              try clear c21b1
              try clear c24
              try clear c28
              try clear c30
              try clear c32
              try clear c39
              try clear c42
              try clear hcz16_0
              try clear hcz16_1
              try clear hcz17_0
              try clear hcz17_1
              try clear hcz25_0
              try clear hcz25_1
              try clear hcz26_0
              try clear hcz26_1
              try clear hcz29_0
              try clear hcz29_1
              try clear hcz31_0
              try clear hcz31_1
              try clear hfz16_0
              try clear hfz16_1
              try clear hfz17_0
              try clear hfz17_1
              try clear hfz25_0
              try clear hfz25_1
              try clear hfz26_0
              try clear hfz26_1
              try clear hfz29_0
              try clear hfz29_1
              try clear hfz31_0
              try clear hfz31_1
              try clear p2
              obtain ⟨kq, x21_40, rfl, HA, HJ40, BK152, BK153, HB⟩ := hcut
              cases kq with
              | zero => exact absurd HA.out (by simp [pluviallaw01_NumWides.j2])
              | succ kj40 =>
                have H := HA.out
                clear HA
                simp only [pluviallaw01_NumWides.j2] at H
                replace H := Option.bind_eq_some_iff.mp H
                obtain ⟨t166, A430, H⟩ := H
                replace H : (if t166 = x21_40 then ((num_Wide_Ceil.f kj40 t148 t149 a4).bind fun bt167 => (if a4 = 0 then ((pluviallaw01_awake.f).bind fun t169 => (if t169 = true then (some (bt167.2 == 5)) else (some false))) else (if bt167.2 = 0 then ((pluvialref01_Mul.f kj40 bt167.1 a4).bind fun bt174 => ((pluvialref01_Less.f bt174.1 bt174.2 t154 t155).bind fun t176 => (if t176 = true then (some false) else (if bt167.1 = 0 then ((pluviallaw01_awake.f).bind fun t177 => (if t177 = true then (if t154 = 0 then (some (t155 == 0)) else (some false)) else (some false))) else ((pluvialref01_Mul.f kj40 (IntKind.u64.wrap (bt167.1 - 1)) a4).bind fun bt178 => ((pluviallaw01_awake.f).bind fun t180 => (if t180 = true then ((pluvialref01_Less.f bt178.1 bt178.2 t154 t155).bind fun t181 => (some t181)) else (some false)))))))) else ((pluvialref01_Mul.f kj40 18446744073709551615 a4).bind fun bt170 => ((pluviallaw01_awake.f).bind fun t172 => (if t172 = true then (if bt167.2 = 5 then ((pluvialref01_Less.f bt170.1 bt170.2 t154 t155).bind fun t173 => (some t173)) else (some false)) else (some false))))))) else (some false)) = some r := H
                have A43 := Aside0.mk A430
                clear A430
                by_cases c44 : t166 = x21_40
                · rw [if_pos c44] at H
                  have c44b0 : (t166 == x21_40) = true := beq_iff_eq.mpr c44
                  have c44b1 : (t166 != x21_40) = false := bne_eq_false_iff_eq.mpr c44
                  clear c44
                  replace H := Option.bind_eq_some_iff.mp H
                  obtain ⟨⟨t167, t168⟩, A450, H⟩ := H
                  replace H : (if a4 = 0 then ((pluviallaw01_awake.f).bind fun t169 => (if t169 = true then (some (t168 == 5)) else (some false))) else (if t168 = 0 then ((pluvialref01_Mul.f kj40 t167 a4).bind fun bt174 => ((pluvialref01_Less.f bt174.1 bt174.2 t154 t155).bind fun t176 => (if t176 = true then (some false) else (if t167 = 0 then ((pluviallaw01_awake.f).bind fun t177 => (if t177 = true then (if t154 = 0 then (some (t155 == 0)) else (some false)) else (some false))) else ((pluvialref01_Mul.f kj40 (IntKind.u64.wrap (t167 - 1)) a4).bind fun bt178 => ((pluviallaw01_awake.f).bind fun t180 => (if t180 = true then ((pluvialref01_Less.f bt178.1 bt178.2 t154 t155).bind fun t181 => (some t181)) else (some false)))))))) else ((pluvialref01_Mul.f kj40 18446744073709551615 a4).bind fun bt170 => ((pluviallaw01_awake.f).bind fun t172 => (if t172 = true then (if t168 = 5 then ((pluvialref01_Less.f bt170.1 bt170.2 t154 t155).bind fun t173 => (some t173)) else (some false)) else (some false)))))) = some r := H
                  have A45 := Aside0.mk A450
                  clear A450
                  by_cases c46 : a4 = 0
                  · rw [if_pos c46] at H
                    have c46b0 : (a4 == 0) = true := beq_iff_eq.mpr c46
                    have c46b1 : (a4 != 0) = false := bne_eq_false_iff_eq.mpr c46
                    clear c46
                    replace H := Option.bind_eq_some_iff.mp H
                    obtain ⟨t169, A470, H⟩ := H
                    replace H : (if t169 = true then (some (t168 == 5)) else (some false)) = some r := H
                    have A47 := Aside0.mk A470
                    clear A470
                    by_cases c48 : t169 = true
                    · subst c48
                      have H1 : (some (t168 == 5)) = some r := by rw [if_pos rfl] at H; exact H
                      clear H
                      have H := H1
                      clear H1
                      obtain rfl := Option.some.inj H
                      go_wp2_with (first | ((with_reducible refine gate_callee (f := 20) rfl ?_); refine goesL_ (some 95) rfl rfl Try.func20 (by kernel_rfl) rfl #[.int .u64 a0, .int .u64 a1, .int .u64 a2, .int .u64 a3] rfl (by (try simp only [List.map_toArray, List.map_cons, List.map_nil]); first | done | rfl | (simp only [List.length_drop, List.length_take]; rfl)) ?_; (with_reducible refine (num_Ratio.calls a0 a1 a2 a3 t166 _ A43.out).mono ?_); rintro e w49 ⟨rfl, hb⟩; refine ⟨_, rfl, ?_⟩; have n0_ := Aside0.mk (blk_below (g := gb152) (o := .cells #[.int .u64 t148, .int .u64 t149] 32 (0, 0)) (by (with_reducible repeat (first | refine blk_drewN ?_ _ | refine blk_drew ?_ | refine blk_alloc ?_ _)); exact BK152.out) hb); have n1_ := Aside0.mk (blk_below (g := gb153) (o := .cells #[.int .u64 t150, .int .u64 t151] 32 (0, 0)) (by (with_reducible repeat (first | refine blk_drewN ?_ _ | refine blk_drew ?_ | refine blk_alloc ?_ _)); exact BK153.out) hb); have n2_ := Aside0.mk (below_step (by repeat (first | (with_reducible first | exact HB.out | apply below_alloc | apply pw_below_drewN | apply below_drew1 | refine below_set ?_ GE152.out | refine below_set ?_ GE153.out) | exact HB.out)) hb); clear BK152; clear BK153; clear HB; have BK152 := n0_; have BK153 := n1_; have HB := n2_; clear n0_ n1_ n2_; (try clear hb); (try clear hb2); (try clear hk); (try clear hi); have hnb50 := NB152_153.out; have hnc50 := NB153_152.out; have hcz51_0 : w49.cell? ⟨gb152, 0, none⟩ = some (.int .u64 t148) := (blk_cell BK152.out 0).trans rfl; have hcz51_1 : w49.cell? ⟨gb152, 1, none⟩ = some (.int .u64 t149) := (blk_cell BK152.out 1).trans rfl; have hfz51_0 := blk_frozen BK152.out 0; have hfz51_1 := blk_frozen BK152.out 1; have hsz51_1 : ∀ A_ B_ : Value, ((w49.setCell ⟨gb152, 0, none⟩ A_).setCell ⟨gb152, 1, none⟩ B_).cell? ⟨gb152, 1, none⟩ = some B_ := fun A_ B_ => World.cell?_setCell_same _ _ _ ((World.cell?_setCell_other _ _ _ _ (by simp)).trans hcz51_1)) | ((with_reducible refine gate_callee (f := 21) rfl ?_); refine goesL_ (some 101) rfl rfl Try.func21 (by kernel_rfl) rfl #[.agg #[.int .u64 t148, .int .u64 t149], .int .u64 a4] rfl (by (try simp only [List.map_toArray, List.map_cons, List.map_nil]); first | done | rfl | (simp only [List.length_drop, List.length_take]; rfl)) ?_; (with_reducible refine (num_Wide_Ceil.calls kj40 t148 t149 a4 t167 t168 _ A45.out).mono ?_); rintro e w52 ⟨rfl, hb⟩; refine ⟨_, rfl, ?_⟩; have n0_ := Aside0.mk (blk_below (g := gb152) (o := .cells #[.int .u64 t148, .int .u64 t149] 32 (0, 0)) (by (with_reducible repeat (first | refine blk_drewN ?_ _ | refine blk_drew ?_ | refine blk_alloc ?_ _)); exact BK152.out) hb); have n1_ := Aside0.mk (blk_below (g := gb153) (o := .cells #[.int .u64 t150, .int .u64 t151] 32 (0, 0)) (by (with_reducible repeat (first | refine blk_drewN ?_ _ | refine blk_drew ?_ | refine blk_alloc ?_ _)); exact BK153.out) hb); have n2_ := Aside0.mk (below_step (by repeat (first | (with_reducible first | exact HB.out | apply below_alloc | apply pw_below_drewN | apply below_drew1 | refine below_set ?_ GE152.out | refine below_set ?_ GE153.out) | exact HB.out)) hb); clear BK152; clear BK153; clear HB; have BK152 := n0_; have BK153 := n1_; have HB := n2_; clear n0_ n1_ n2_; (try clear hb); (try clear hb2); (try clear hk); (try clear hi)) | (go_at_call 11; (with_reducible refine (pluviallaw01_awake.calls  true _ A47.out).mono ?_); rintro e w' ⟨rfl, ⟨nd, rfl⟩⟩))
                      go_ret
                      exact ⟨by first | rfl | (simp [errW_none, errW_some] <;> rfl) | (simp [*, errW_none, errW_some] <;> rfl), by repeat (first | (with_reducible first | exact HB.out | apply below_alloc | apply pw_below_drewN | apply below_drew1 | refine below_set ?_ GE152.out | refine below_set ?_ GE153.out) | exact HB.out)⟩
                    · replace c48 := Bool.eq_false_iff.mpr c48
                      subst c48
                      have H1 : (some false) = some r := by rw [if_neg (show ¬ (false = true) by decide)] at H; exact H
                      clear H
                      have H := H1
                      clear H1
                      obtain rfl := Option.some.inj H
                      go_wp2_with (first | ((with_reducible refine gate_callee (f := 20) rfl ?_); refine goesL_ (some 95) rfl rfl Try.func20 (by kernel_rfl) rfl #[.int .u64 a0, .int .u64 a1, .int .u64 a2, .int .u64 a3] rfl (by (try simp only [List.map_toArray, List.map_cons, List.map_nil]); first | done | rfl | (simp only [List.length_drop, List.length_take]; rfl)) ?_; (with_reducible refine (num_Ratio.calls a0 a1 a2 a3 t166 _ A43.out).mono ?_); rintro e w53 ⟨rfl, hb⟩; refine ⟨_, rfl, ?_⟩; have n0_ := Aside0.mk (blk_below (g := gb152) (o := .cells #[.int .u64 t148, .int .u64 t149] 32 (0, 0)) (by (with_reducible repeat (first | refine blk_drewN ?_ _ | refine blk_drew ?_ | refine blk_alloc ?_ _)); exact BK152.out) hb); have n1_ := Aside0.mk (blk_below (g := gb153) (o := .cells #[.int .u64 t150, .int .u64 t151] 32 (0, 0)) (by (with_reducible repeat (first | refine blk_drewN ?_ _ | refine blk_drew ?_ | refine blk_alloc ?_ _)); exact BK153.out) hb); have n2_ := Aside0.mk (below_step (by repeat (first | (with_reducible first | exact HB.out | apply below_alloc | apply pw_below_drewN | apply below_drew1 | refine below_set ?_ GE152.out | refine below_set ?_ GE153.out) | exact HB.out)) hb); clear BK152; clear BK153; clear HB; have BK152 := n0_; have BK153 := n1_; have HB := n2_; clear n0_ n1_ n2_; (try clear hb); (try clear hb2); (try clear hk); (try clear hi); have hnb54 := NB152_153.out; have hnc54 := NB153_152.out; have hcz55_0 : w53.cell? ⟨gb152, 0, none⟩ = some (.int .u64 t148) := (blk_cell BK152.out 0).trans rfl; have hcz55_1 : w53.cell? ⟨gb152, 1, none⟩ = some (.int .u64 t149) := (blk_cell BK152.out 1).trans rfl; have hfz55_0 := blk_frozen BK152.out 0; have hfz55_1 := blk_frozen BK152.out 1; have hsz55_1 : ∀ A_ B_ : Value, ((w53.setCell ⟨gb152, 0, none⟩ A_).setCell ⟨gb152, 1, none⟩ B_).cell? ⟨gb152, 1, none⟩ = some B_ := fun A_ B_ => World.cell?_setCell_same _ _ _ ((World.cell?_setCell_other _ _ _ _ (by simp)).trans hcz55_1)) | ((with_reducible refine gate_callee (f := 21) rfl ?_); refine goesL_ (some 101) rfl rfl Try.func21 (by kernel_rfl) rfl #[.agg #[.int .u64 t148, .int .u64 t149], .int .u64 a4] rfl (by (try simp only [List.map_toArray, List.map_cons, List.map_nil]); first | done | rfl | (simp only [List.length_drop, List.length_take]; rfl)) ?_; (with_reducible refine (num_Wide_Ceil.calls kj40 t148 t149 a4 t167 t168 _ A45.out).mono ?_); rintro e w56 ⟨rfl, hb⟩; refine ⟨_, rfl, ?_⟩; have n0_ := Aside0.mk (blk_below (g := gb152) (o := .cells #[.int .u64 t148, .int .u64 t149] 32 (0, 0)) (by (with_reducible repeat (first | refine blk_drewN ?_ _ | refine blk_drew ?_ | refine blk_alloc ?_ _)); exact BK152.out) hb); have n1_ := Aside0.mk (blk_below (g := gb153) (o := .cells #[.int .u64 t150, .int .u64 t151] 32 (0, 0)) (by (with_reducible repeat (first | refine blk_drewN ?_ _ | refine blk_drew ?_ | refine blk_alloc ?_ _)); exact BK153.out) hb); have n2_ := Aside0.mk (below_step (by repeat (first | (with_reducible first | exact HB.out | apply below_alloc | apply pw_below_drewN | apply below_drew1 | refine below_set ?_ GE152.out | refine below_set ?_ GE153.out) | exact HB.out)) hb); clear BK152; clear BK153; clear HB; have BK152 := n0_; have BK153 := n1_; have HB := n2_; clear n0_ n1_ n2_; (try clear hb); (try clear hb2); (try clear hk); (try clear hi)) | (go_at_call 11; (with_reducible refine (pluviallaw01_awake.calls  false _ A47.out).mono ?_); rintro e w' ⟨rfl, ⟨nd, rfl⟩⟩))
                      go_ret
                      exact ⟨by first | rfl | (simp [errW_none, errW_some] <;> rfl) | (simp [*, errW_none, errW_some] <;> rfl), by repeat (first | (with_reducible first | exact HB.out | apply below_alloc | apply pw_below_drewN | apply below_drew1 | refine below_set ?_ GE152.out | refine below_set ?_ GE153.out) | exact HB.out)⟩
                  · rw [if_neg c46] at H
                    have c46b0 : (a4 == 0) = false := beq_eq_false_iff_ne.mpr c46
                    have c46b1 : (a4 != 0) = true := bne_iff_ne.mpr c46
                    by_cases c57 : t168 = 0
                    · rw [if_pos c57] at H
                      have c57b0 : (t168 == 0) = true := beq_iff_eq.mpr c57
                      have c57b1 : (t168 != 0) = false := bne_eq_false_iff_eq.mpr c57
                      clear c57
                      replace H := Option.bind_eq_some_iff.mp H
                      obtain ⟨⟨t174, t175⟩, A580, H⟩ := H
                      replace H : ((pluvialref01_Less.f t174 t175 t154 t155).bind fun t176 => (if t176 = true then (some false) else (if t167 = 0 then ((pluviallaw01_awake.f).bind fun t177 => (if t177 = true then (if t154 = 0 then (some (t155 == 0)) else (some false)) else (some false))) else ((pluvialref01_Mul.f kj40 (IntKind.u64.wrap (t167 - 1)) a4).bind fun bt178 => ((pluviallaw01_awake.f).bind fun t180 => (if t180 = true then ((pluvialref01_Less.f bt178.1 bt178.2 t154 t155).bind fun t181 => (some t181)) else (some false))))))) = some r := H
                      have A58 := Aside0.mk A580
                      clear A580
                      replace H := Option.bind_eq_some_iff.mp H
                      obtain ⟨t176, A590, H⟩ := H
                      replace H : (if t176 = true then (some false) else (if t167 = 0 then ((pluviallaw01_awake.f).bind fun t177 => (if t177 = true then (if t154 = 0 then (some (t155 == 0)) else (some false)) else (some false))) else ((pluvialref01_Mul.f kj40 (IntKind.u64.wrap (t167 - 1)) a4).bind fun bt178 => ((pluviallaw01_awake.f).bind fun t180 => (if t180 = true then ((pluvialref01_Less.f bt178.1 bt178.2 t154 t155).bind fun t181 => (some t181)) else (some false)))))) = some r := H
                      have A59 := Aside0.mk A590
                      clear A590
                      by_cases c60 : t176 = true
                      · subst c60
                        have H1 : (some false) = some r := by rw [if_pos rfl] at H; exact H
                        clear H
                        have H := H1
                        clear H1
                        obtain rfl := Option.some.inj H
                        go_wp2_with (first | ((with_reducible refine gate_callee (f := 20) rfl ?_); refine goesL_ (some 95) rfl rfl Try.func20 (by kernel_rfl) rfl #[.int .u64 a0, .int .u64 a1, .int .u64 a2, .int .u64 a3] rfl (by (try simp only [List.map_toArray, List.map_cons, List.map_nil]); first | done | rfl | (simp only [List.length_drop, List.length_take]; rfl)) ?_; (with_reducible refine (num_Ratio.calls a0 a1 a2 a3 t166 _ A43.out).mono ?_); rintro e w61 ⟨rfl, hb⟩; refine ⟨_, rfl, ?_⟩; have n0_ := Aside0.mk (blk_below (g := gb152) (o := .cells #[.int .u64 t148, .int .u64 t149] 32 (0, 0)) (by (with_reducible repeat (first | refine blk_drewN ?_ _ | refine blk_drew ?_ | refine blk_alloc ?_ _)); exact BK152.out) hb); have n1_ := Aside0.mk (blk_below (g := gb153) (o := .cells #[.int .u64 t150, .int .u64 t151] 32 (0, 0)) (by (with_reducible repeat (first | refine blk_drewN ?_ _ | refine blk_drew ?_ | refine blk_alloc ?_ _)); exact BK153.out) hb); have n2_ := Aside0.mk (below_step (by repeat (first | (with_reducible first | exact HB.out | apply below_alloc | apply pw_below_drewN | apply below_drew1 | refine below_set ?_ GE152.out | refine below_set ?_ GE153.out) | exact HB.out)) hb); clear BK152; clear BK153; clear HB; have BK152 := n0_; have BK153 := n1_; have HB := n2_; clear n0_ n1_ n2_; (try clear hb); (try clear hb2); (try clear hk); (try clear hi); have hnb62 := NB152_153.out; have hnc62 := NB153_152.out; have hcz63_0 : w61.cell? ⟨gb152, 0, none⟩ = some (.int .u64 t148) := (blk_cell BK152.out 0).trans rfl; have hcz63_1 : w61.cell? ⟨gb152, 1, none⟩ = some (.int .u64 t149) := (blk_cell BK152.out 1).trans rfl; have hfz63_0 := blk_frozen BK152.out 0; have hfz63_1 := blk_frozen BK152.out 1; have hsz63_1 : ∀ A_ B_ : Value, ((w61.setCell ⟨gb152, 0, none⟩ A_).setCell ⟨gb152, 1, none⟩ B_).cell? ⟨gb152, 1, none⟩ = some B_ := fun A_ B_ => World.cell?_setCell_same _ _ _ ((World.cell?_setCell_other _ _ _ _ (by simp)).trans hcz63_1)) | ((with_reducible refine gate_callee (f := 21) rfl ?_); refine goesL_ (some 101) rfl rfl Try.func21 (by kernel_rfl) rfl #[.agg #[.int .u64 t148, .int .u64 t149], .int .u64 a4] rfl (by (try simp only [List.map_toArray, List.map_cons, List.map_nil]); first | done | rfl | (simp only [List.length_drop, List.length_take]; rfl)) ?_; (with_reducible refine (num_Wide_Ceil.calls kj40 t148 t149 a4 t167 t168 _ A45.out).mono ?_); rintro e w64 ⟨rfl, hb⟩; refine ⟨_, rfl, ?_⟩; have n0_ := Aside0.mk (blk_below (g := gb152) (o := .cells #[.int .u64 t148, .int .u64 t149] 32 (0, 0)) (by (with_reducible repeat (first | refine blk_drewN ?_ _ | refine blk_drew ?_ | refine blk_alloc ?_ _)); exact BK152.out) hb); have n1_ := Aside0.mk (blk_below (g := gb153) (o := .cells #[.int .u64 t150, .int .u64 t151] 32 (0, 0)) (by (with_reducible repeat (first | refine blk_drewN ?_ _ | refine blk_drew ?_ | refine blk_alloc ?_ _)); exact BK153.out) hb); have n2_ := Aside0.mk (below_step (by repeat (first | (with_reducible first | exact HB.out | apply below_alloc | apply pw_below_drewN | apply below_drew1 | refine below_set ?_ GE152.out | refine below_set ?_ GE153.out) | exact HB.out)) hb); clear BK152; clear BK153; clear HB; have BK152 := n0_; have BK153 := n1_; have HB := n2_; clear n0_ n1_ n2_; (try clear hb); (try clear hb2); (try clear hk); (try clear hi)) | ((with_reducible refine gate_callee (f := 17) rfl ?_); refine goesL_ (some 133) rfl rfl Try.func17 (by kernel_rfl) rfl #[.int .u64 t167, .int .u64 a4] rfl (by (try simp only [List.map_toArray, List.map_cons, List.map_nil]); first | done | rfl | (simp only [List.length_drop, List.length_take]; rfl)) ?_; (with_reducible refine (pluvialref01_Mul.calls kj40 t167 a4 t174 t175 _ A58.out).mono ?_); rintro e w65 ⟨rfl, hb⟩; refine ⟨_, rfl, ?_⟩; have n0_ := Aside0.mk (blk_below (g := gb152) (o := .cells #[.int .u64 t148, .int .u64 t149] 32 (0, 0)) (by (with_reducible repeat (first | refine blk_drewN ?_ _ | refine blk_drew ?_ | refine blk_alloc ?_ _)); exact BK152.out) hb); have n1_ := Aside0.mk (blk_below (g := gb153) (o := .cells #[.int .u64 t150, .int .u64 t151] 32 (0, 0)) (by (with_reducible repeat (first | refine blk_drewN ?_ _ | refine blk_drew ?_ | refine blk_alloc ?_ _)); exact BK153.out) hb); have n2_ := Aside0.mk (below_step (by repeat (first | (with_reducible first | exact HB.out | apply below_alloc | apply pw_below_drewN | apply below_drew1 | refine below_set ?_ GE152.out | refine below_set ?_ GE153.out) | exact HB.out)) hb); clear BK152; clear BK153; clear HB; have BK152 := n0_; have BK153 := n1_; have HB := n2_; clear n0_ n1_ n2_; (try clear hb); (try clear hb2); (try clear hk); (try clear hi)) | (go_at_call 19; (with_reducible refine (pluvialref01_Less.calls t174 t175 t154 t155 true _ A59.out).mono ?_); rintro e w' ⟨rfl, ⟨nd, rfl⟩⟩))
                        go_ret
                        exact ⟨by first | rfl | (simp [errW_none, errW_some] <;> rfl) | (simp [*, errW_none, errW_some] <;> rfl), by repeat (first | (with_reducible first | exact HB.out | apply below_alloc | apply pw_below_drewN | apply below_drew1 | refine below_set ?_ GE152.out | refine below_set ?_ GE153.out) | exact HB.out)⟩
                      · replace c60 := Bool.eq_false_iff.mpr c60
                        subst c60
                        have H1 : (if t167 = 0 then ((pluviallaw01_awake.f).bind fun t177 => (if t177 = true then (if t154 = 0 then (some (t155 == 0)) else (some false)) else (some false))) else ((pluvialref01_Mul.f kj40 (IntKind.u64.wrap (t167 - 1)) a4).bind fun bt178 => ((pluviallaw01_awake.f).bind fun t180 => (if t180 = true then ((pluvialref01_Less.f bt178.1 bt178.2 t154 t155).bind fun t181 => (some t181)) else (some false))))) = some r := by rw [if_neg (show ¬ (false = true) by decide)] at H; exact H
                        clear H
                        have H := H1
                        clear H1
                        by_cases c66 : t167 = 0
                        · rw [if_pos c66] at H
                          have c66b0 : (t167 == 0) = true := beq_iff_eq.mpr c66
                          have c66b1 : (t167 != 0) = false := bne_eq_false_iff_eq.mpr c66
                          clear c66
                          replace H := Option.bind_eq_some_iff.mp H
                          obtain ⟨t177, A670, H⟩ := H
                          replace H : (if t177 = true then (if t154 = 0 then (some (t155 == 0)) else (some false)) else (some false)) = some r := H
                          have A67 := Aside0.mk A670
                          clear A670
                          by_cases c68 : t177 = true
                          · subst c68
                            have H1 : (if t154 = 0 then (some (t155 == 0)) else (some false)) = some r := by rw [if_pos rfl] at H; exact H
                            clear H
                            have H := H1
                            clear H1
                            by_cases c69 : t154 = 0
                            · rw [if_pos c69] at H
                              have c69b0 : (t154 == 0) = true := beq_iff_eq.mpr c69
                              have c69b1 : (t154 != 0) = false := bne_eq_false_iff_eq.mpr c69
                              clear c69
                              obtain rfl := Option.some.inj H
                              go_wp2_with (first | ((with_reducible refine gate_callee (f := 20) rfl ?_); refine goesL_ (some 95) rfl rfl Try.func20 (by kernel_rfl) rfl #[.int .u64 a0, .int .u64 a1, .int .u64 a2, .int .u64 a3] rfl (by (try simp only [List.map_toArray, List.map_cons, List.map_nil]); first | done | rfl | (simp only [List.length_drop, List.length_take]; rfl)) ?_; (with_reducible refine (num_Ratio.calls a0 a1 a2 a3 t166 _ A43.out).mono ?_); rintro e w70 ⟨rfl, hb⟩; refine ⟨_, rfl, ?_⟩; have n0_ := Aside0.mk (blk_below (g := gb152) (o := .cells #[.int .u64 t148, .int .u64 t149] 32 (0, 0)) (by (with_reducible repeat (first | refine blk_drewN ?_ _ | refine blk_drew ?_ | refine blk_alloc ?_ _)); exact BK152.out) hb); have n1_ := Aside0.mk (blk_below (g := gb153) (o := .cells #[.int .u64 t150, .int .u64 t151] 32 (0, 0)) (by (with_reducible repeat (first | refine blk_drewN ?_ _ | refine blk_drew ?_ | refine blk_alloc ?_ _)); exact BK153.out) hb); have n2_ := Aside0.mk (below_step (by repeat (first | (with_reducible first | exact HB.out | apply below_alloc | apply pw_below_drewN | apply below_drew1 | refine below_set ?_ GE152.out | refine below_set ?_ GE153.out) | exact HB.out)) hb); clear BK152; clear BK153; clear HB; have BK152 := n0_; have BK153 := n1_; have HB := n2_; clear n0_ n1_ n2_; (try clear hb); (try clear hb2); (try clear hk); (try clear hi); have hnb71 := NB152_153.out; have hnc71 := NB153_152.out; have hcz72_0 : w70.cell? ⟨gb152, 0, none⟩ = some (.int .u64 t148) := (blk_cell BK152.out 0).trans rfl; have hcz72_1 : w70.cell? ⟨gb152, 1, none⟩ = some (.int .u64 t149) := (blk_cell BK152.out 1).trans rfl; have hfz72_0 := blk_frozen BK152.out 0; have hfz72_1 := blk_frozen BK152.out 1; have hsz72_1 : ∀ A_ B_ : Value, ((w70.setCell ⟨gb152, 0, none⟩ A_).setCell ⟨gb152, 1, none⟩ B_).cell? ⟨gb152, 1, none⟩ = some B_ := fun A_ B_ => World.cell?_setCell_same _ _ _ ((World.cell?_setCell_other _ _ _ _ (by simp)).trans hcz72_1)) | ((with_reducible refine gate_callee (f := 21) rfl ?_); refine goesL_ (some 101) rfl rfl Try.func21 (by kernel_rfl) rfl #[.agg #[.int .u64 t148, .int .u64 t149], .int .u64 a4] rfl (by (try simp only [List.map_toArray, List.map_cons, List.map_nil]); first | done | rfl | (simp only [List.length_drop, List.length_take]; rfl)) ?_; (with_reducible refine (num_Wide_Ceil.calls kj40 t148 t149 a4 t167 t168 _ A45.out).mono ?_); rintro e w73 ⟨rfl, hb⟩; refine ⟨_, rfl, ?_⟩; have n0_ := Aside0.mk (blk_below (g := gb152) (o := .cells #[.int .u64 t148, .int .u64 t149] 32 (0, 0)) (by (with_reducible repeat (first | refine blk_drewN ?_ _ | refine blk_drew ?_ | refine blk_alloc ?_ _)); exact BK152.out) hb); have n1_ := Aside0.mk (blk_below (g := gb153) (o := .cells #[.int .u64 t150, .int .u64 t151] 32 (0, 0)) (by (with_reducible repeat (first | refine blk_drewN ?_ _ | refine blk_drew ?_ | refine blk_alloc ?_ _)); exact BK153.out) hb); have n2_ := Aside0.mk (below_step (by repeat (first | (with_reducible first | exact HB.out | apply below_alloc | apply pw_below_drewN | apply below_drew1 | refine below_set ?_ GE152.out | refine below_set ?_ GE153.out) | exact HB.out)) hb); clear BK152; clear BK153; clear HB; have BK152 := n0_; have BK153 := n1_; have HB := n2_; clear n0_ n1_ n2_; (try clear hb); (try clear hb2); (try clear hk); (try clear hi)) | ((with_reducible refine gate_callee (f := 17) rfl ?_); refine goesL_ (some 133) rfl rfl Try.func17 (by kernel_rfl) rfl #[.int .u64 t167, .int .u64 a4] rfl (by (try simp only [List.map_toArray, List.map_cons, List.map_nil]); first | done | rfl | (simp only [List.length_drop, List.length_take]; rfl)) ?_; (with_reducible refine (pluvialref01_Mul.calls kj40 t167 a4 t174 t175 _ A58.out).mono ?_); rintro e w74 ⟨rfl, hb⟩; refine ⟨_, rfl, ?_⟩; have n0_ := Aside0.mk (blk_below (g := gb152) (o := .cells #[.int .u64 t148, .int .u64 t149] 32 (0, 0)) (by (with_reducible repeat (first | refine blk_drewN ?_ _ | refine blk_drew ?_ | refine blk_alloc ?_ _)); exact BK152.out) hb); have n1_ := Aside0.mk (blk_below (g := gb153) (o := .cells #[.int .u64 t150, .int .u64 t151] 32 (0, 0)) (by (with_reducible repeat (first | refine blk_drewN ?_ _ | refine blk_drew ?_ | refine blk_alloc ?_ _)); exact BK153.out) hb); have n2_ := Aside0.mk (below_step (by repeat (first | (with_reducible first | exact HB.out | apply below_alloc | apply pw_below_drewN | apply below_drew1 | refine below_set ?_ GE152.out | refine below_set ?_ GE153.out) | exact HB.out)) hb); clear BK152; clear BK153; clear HB; have BK152 := n0_; have BK153 := n1_; have HB := n2_; clear n0_ n1_ n2_; (try clear hb); (try clear hb2); (try clear hk); (try clear hi)) | (go_at_call 19; (with_reducible refine (pluvialref01_Less.calls t174 t175 t154 t155 false _ A59.out).mono ?_); rintro e w' ⟨rfl, ⟨nd, rfl⟩⟩) | (go_at_call 11; (with_reducible refine (pluviallaw01_awake.calls  true _ A67.out).mono ?_); rintro e w' ⟨rfl, ⟨nd, rfl⟩⟩))
                              go_ret
                              exact ⟨by first | rfl | (simp [errW_none, errW_some] <;> rfl) | (simp [*, errW_none, errW_some] <;> rfl), by repeat (first | (with_reducible first | exact HB.out | apply below_alloc | apply pw_below_drewN | apply below_drew1 | refine below_set ?_ GE152.out | refine below_set ?_ GE153.out) | exact HB.out)⟩
                            · rw [if_neg c69] at H
                              have c69b0 : (t154 == 0) = false := beq_eq_false_iff_ne.mpr c69
                              have c69b1 : (t154 != 0) = true := bne_iff_ne.mpr c69
                              obtain rfl := Option.some.inj H
                              go_wp2_with (first | ((with_reducible refine gate_callee (f := 20) rfl ?_); refine goesL_ (some 95) rfl rfl Try.func20 (by kernel_rfl) rfl #[.int .u64 a0, .int .u64 a1, .int .u64 a2, .int .u64 a3] rfl (by (try simp only [List.map_toArray, List.map_cons, List.map_nil]); first | done | rfl | (simp only [List.length_drop, List.length_take]; rfl)) ?_; (with_reducible refine (num_Ratio.calls a0 a1 a2 a3 t166 _ A43.out).mono ?_); rintro e w75 ⟨rfl, hb⟩; refine ⟨_, rfl, ?_⟩; have n0_ := Aside0.mk (blk_below (g := gb152) (o := .cells #[.int .u64 t148, .int .u64 t149] 32 (0, 0)) (by (with_reducible repeat (first | refine blk_drewN ?_ _ | refine blk_drew ?_ | refine blk_alloc ?_ _)); exact BK152.out) hb); have n1_ := Aside0.mk (blk_below (g := gb153) (o := .cells #[.int .u64 t150, .int .u64 t151] 32 (0, 0)) (by (with_reducible repeat (first | refine blk_drewN ?_ _ | refine blk_drew ?_ | refine blk_alloc ?_ _)); exact BK153.out) hb); have n2_ := Aside0.mk (below_step (by repeat (first | (with_reducible first | exact HB.out | apply below_alloc | apply pw_below_drewN | apply below_drew1 | refine below_set ?_ GE152.out | refine below_set ?_ GE153.out) | exact HB.out)) hb); clear BK152; clear BK153; clear HB; have BK152 := n0_; have BK153 := n1_; have HB := n2_; clear n0_ n1_ n2_; (try clear hb); (try clear hb2); (try clear hk); (try clear hi); have hnb76 := NB152_153.out; have hnc76 := NB153_152.out; have hcz77_0 : w75.cell? ⟨gb152, 0, none⟩ = some (.int .u64 t148) := (blk_cell BK152.out 0).trans rfl; have hcz77_1 : w75.cell? ⟨gb152, 1, none⟩ = some (.int .u64 t149) := (blk_cell BK152.out 1).trans rfl; have hfz77_0 := blk_frozen BK152.out 0; have hfz77_1 := blk_frozen BK152.out 1; have hsz77_1 : ∀ A_ B_ : Value, ((w75.setCell ⟨gb152, 0, none⟩ A_).setCell ⟨gb152, 1, none⟩ B_).cell? ⟨gb152, 1, none⟩ = some B_ := fun A_ B_ => World.cell?_setCell_same _ _ _ ((World.cell?_setCell_other _ _ _ _ (by simp)).trans hcz77_1)) | ((with_reducible refine gate_callee (f := 21) rfl ?_); refine goesL_ (some 101) rfl rfl Try.func21 (by kernel_rfl) rfl #[.agg #[.int .u64 t148, .int .u64 t149], .int .u64 a4] rfl (by (try simp only [List.map_toArray, List.map_cons, List.map_nil]); first | done | rfl | (simp only [List.length_drop, List.length_take]; rfl)) ?_; (with_reducible refine (num_Wide_Ceil.calls kj40 t148 t149 a4 t167 t168 _ A45.out).mono ?_); rintro e w78 ⟨rfl, hb⟩; refine ⟨_, rfl, ?_⟩; have n0_ := Aside0.mk (blk_below (g := gb152) (o := .cells #[.int .u64 t148, .int .u64 t149] 32 (0, 0)) (by (with_reducible repeat (first | refine blk_drewN ?_ _ | refine blk_drew ?_ | refine blk_alloc ?_ _)); exact BK152.out) hb); have n1_ := Aside0.mk (blk_below (g := gb153) (o := .cells #[.int .u64 t150, .int .u64 t151] 32 (0, 0)) (by (with_reducible repeat (first | refine blk_drewN ?_ _ | refine blk_drew ?_ | refine blk_alloc ?_ _)); exact BK153.out) hb); have n2_ := Aside0.mk (below_step (by repeat (first | (with_reducible first | exact HB.out | apply below_alloc | apply pw_below_drewN | apply below_drew1 | refine below_set ?_ GE152.out | refine below_set ?_ GE153.out) | exact HB.out)) hb); clear BK152; clear BK153; clear HB; have BK152 := n0_; have BK153 := n1_; have HB := n2_; clear n0_ n1_ n2_; (try clear hb); (try clear hb2); (try clear hk); (try clear hi)) | ((with_reducible refine gate_callee (f := 17) rfl ?_); refine goesL_ (some 133) rfl rfl Try.func17 (by kernel_rfl) rfl #[.int .u64 t167, .int .u64 a4] rfl (by (try simp only [List.map_toArray, List.map_cons, List.map_nil]); first | done | rfl | (simp only [List.length_drop, List.length_take]; rfl)) ?_; (with_reducible refine (pluvialref01_Mul.calls kj40 t167 a4 t174 t175 _ A58.out).mono ?_); rintro e w79 ⟨rfl, hb⟩; refine ⟨_, rfl, ?_⟩; have n0_ := Aside0.mk (blk_below (g := gb152) (o := .cells #[.int .u64 t148, .int .u64 t149] 32 (0, 0)) (by (with_reducible repeat (first | refine blk_drewN ?_ _ | refine blk_drew ?_ | refine blk_alloc ?_ _)); exact BK152.out) hb); have n1_ := Aside0.mk (blk_below (g := gb153) (o := .cells #[.int .u64 t150, .int .u64 t151] 32 (0, 0)) (by (with_reducible repeat (first | refine blk_drewN ?_ _ | refine blk_drew ?_ | refine blk_alloc ?_ _)); exact BK153.out) hb); have n2_ := Aside0.mk (below_step (by repeat (first | (with_reducible first | exact HB.out | apply below_alloc | apply pw_below_drewN | apply below_drew1 | refine below_set ?_ GE152.out | refine below_set ?_ GE153.out) | exact HB.out)) hb); clear BK152; clear BK153; clear HB; have BK152 := n0_; have BK153 := n1_; have HB := n2_; clear n0_ n1_ n2_; (try clear hb); (try clear hb2); (try clear hk); (try clear hi)) | (go_at_call 19; (with_reducible refine (pluvialref01_Less.calls t174 t175 t154 t155 false _ A59.out).mono ?_); rintro e w' ⟨rfl, ⟨nd, rfl⟩⟩) | (go_at_call 11; (with_reducible refine (pluviallaw01_awake.calls  true _ A67.out).mono ?_); rintro e w' ⟨rfl, ⟨nd, rfl⟩⟩))
                              go_ret
                              exact ⟨by first | rfl | (simp [errW_none, errW_some] <;> rfl) | (simp [*, errW_none, errW_some] <;> rfl), by repeat (first | (with_reducible first | exact HB.out | apply below_alloc | apply pw_below_drewN | apply below_drew1 | refine below_set ?_ GE152.out | refine below_set ?_ GE153.out) | exact HB.out)⟩
                          · replace c68 := Bool.eq_false_iff.mpr c68
                            subst c68
                            have H1 : (some false) = some r := by rw [if_neg (show ¬ (false = true) by decide)] at H; exact H
                            clear H
                            have H := H1
                            clear H1
                            obtain rfl := Option.some.inj H
                            go_wp2_with (first | ((with_reducible refine gate_callee (f := 20) rfl ?_); refine goesL_ (some 95) rfl rfl Try.func20 (by kernel_rfl) rfl #[.int .u64 a0, .int .u64 a1, .int .u64 a2, .int .u64 a3] rfl (by (try simp only [List.map_toArray, List.map_cons, List.map_nil]); first | done | rfl | (simp only [List.length_drop, List.length_take]; rfl)) ?_; (with_reducible refine (num_Ratio.calls a0 a1 a2 a3 t166 _ A43.out).mono ?_); rintro e w80 ⟨rfl, hb⟩; refine ⟨_, rfl, ?_⟩; have n0_ := Aside0.mk (blk_below (g := gb152) (o := .cells #[.int .u64 t148, .int .u64 t149] 32 (0, 0)) (by (with_reducible repeat (first | refine blk_drewN ?_ _ | refine blk_drew ?_ | refine blk_alloc ?_ _)); exact BK152.out) hb); have n1_ := Aside0.mk (blk_below (g := gb153) (o := .cells #[.int .u64 t150, .int .u64 t151] 32 (0, 0)) (by (with_reducible repeat (first | refine blk_drewN ?_ _ | refine blk_drew ?_ | refine blk_alloc ?_ _)); exact BK153.out) hb); have n2_ := Aside0.mk (below_step (by repeat (first | (with_reducible first | exact HB.out | apply below_alloc | apply pw_below_drewN | apply below_drew1 | refine below_set ?_ GE152.out | refine below_set ?_ GE153.out) | exact HB.out)) hb); clear BK152; clear BK153; clear HB; have BK152 := n0_; have BK153 := n1_; have HB := n2_; clear n0_ n1_ n2_; (try clear hb); (try clear hb2); (try clear hk); (try clear hi); have hnb81 := NB152_153.out; have hnc81 := NB153_152.out; have hcz82_0 : w80.cell? ⟨gb152, 0, none⟩ = some (.int .u64 t148) := (blk_cell BK152.out 0).trans rfl; have hcz82_1 : w80.cell? ⟨gb152, 1, none⟩ = some (.int .u64 t149) := (blk_cell BK152.out 1).trans rfl; have hfz82_0 := blk_frozen BK152.out 0; have hfz82_1 := blk_frozen BK152.out 1; have hsz82_1 : ∀ A_ B_ : Value, ((w80.setCell ⟨gb152, 0, none⟩ A_).setCell ⟨gb152, 1, none⟩ B_).cell? ⟨gb152, 1, none⟩ = some B_ := fun A_ B_ => World.cell?_setCell_same _ _ _ ((World.cell?_setCell_other _ _ _ _ (by simp)).trans hcz82_1)) | ((with_reducible refine gate_callee (f := 21) rfl ?_); refine goesL_ (some 101) rfl rfl Try.func21 (by kernel_rfl) rfl #[.agg #[.int .u64 t148, .int .u64 t149], .int .u64 a4] rfl (by (try simp only [List.map_toArray, List.map_cons, List.map_nil]); first | done | rfl | (simp only [List.length_drop, List.length_take]; rfl)) ?_; (with_reducible refine (num_Wide_Ceil.calls kj40 t148 t149 a4 t167 t168 _ A45.out).mono ?_); rintro e w83 ⟨rfl, hb⟩; refine ⟨_, rfl, ?_⟩; have n0_ := Aside0.mk (blk_below (g := gb152) (o := .cells #[.int .u64 t148, .int .u64 t149] 32 (0, 0)) (by (with_reducible repeat (first | refine blk_drewN ?_ _ | refine blk_drew ?_ | refine blk_alloc ?_ _)); exact BK152.out) hb); have n1_ := Aside0.mk (blk_below (g := gb153) (o := .cells #[.int .u64 t150, .int .u64 t151] 32 (0, 0)) (by (with_reducible repeat (first | refine blk_drewN ?_ _ | refine blk_drew ?_ | refine blk_alloc ?_ _)); exact BK153.out) hb); have n2_ := Aside0.mk (below_step (by repeat (first | (with_reducible first | exact HB.out | apply below_alloc | apply pw_below_drewN | apply below_drew1 | refine below_set ?_ GE152.out | refine below_set ?_ GE153.out) | exact HB.out)) hb); clear BK152; clear BK153; clear HB; have BK152 := n0_; have BK153 := n1_; have HB := n2_; clear n0_ n1_ n2_; (try clear hb); (try clear hb2); (try clear hk); (try clear hi)) | ((with_reducible refine gate_callee (f := 17) rfl ?_); refine goesL_ (some 133) rfl rfl Try.func17 (by kernel_rfl) rfl #[.int .u64 t167, .int .u64 a4] rfl (by (try simp only [List.map_toArray, List.map_cons, List.map_nil]); first | done | rfl | (simp only [List.length_drop, List.length_take]; rfl)) ?_; (with_reducible refine (pluvialref01_Mul.calls kj40 t167 a4 t174 t175 _ A58.out).mono ?_); rintro e w84 ⟨rfl, hb⟩; refine ⟨_, rfl, ?_⟩; have n0_ := Aside0.mk (blk_below (g := gb152) (o := .cells #[.int .u64 t148, .int .u64 t149] 32 (0, 0)) (by (with_reducible repeat (first | refine blk_drewN ?_ _ | refine blk_drew ?_ | refine blk_alloc ?_ _)); exact BK152.out) hb); have n1_ := Aside0.mk (blk_below (g := gb153) (o := .cells #[.int .u64 t150, .int .u64 t151] 32 (0, 0)) (by (with_reducible repeat (first | refine blk_drewN ?_ _ | refine blk_drew ?_ | refine blk_alloc ?_ _)); exact BK153.out) hb); have n2_ := Aside0.mk (below_step (by repeat (first | (with_reducible first | exact HB.out | apply below_alloc | apply pw_below_drewN | apply below_drew1 | refine below_set ?_ GE152.out | refine below_set ?_ GE153.out) | exact HB.out)) hb); clear BK152; clear BK153; clear HB; have BK152 := n0_; have BK153 := n1_; have HB := n2_; clear n0_ n1_ n2_; (try clear hb); (try clear hb2); (try clear hk); (try clear hi)) | (go_at_call 19; (with_reducible refine (pluvialref01_Less.calls t174 t175 t154 t155 false _ A59.out).mono ?_); rintro e w' ⟨rfl, ⟨nd, rfl⟩⟩) | (go_at_call 11; (with_reducible refine (pluviallaw01_awake.calls  false _ A67.out).mono ?_); rintro e w' ⟨rfl, ⟨nd, rfl⟩⟩))
                            go_ret
                            exact ⟨by first | rfl | (simp [errW_none, errW_some] <;> rfl) | (simp [*, errW_none, errW_some] <;> rfl), by repeat (first | (with_reducible first | exact HB.out | apply below_alloc | apply pw_below_drewN | apply below_drew1 | refine below_set ?_ GE152.out | refine below_set ?_ GE153.out) | exact HB.out)⟩
                        · rw [if_neg c66] at H
                          have c66b0 : (t167 == 0) = false := beq_eq_false_iff_ne.mpr c66
                          have c66b1 : (t167 != 0) = true := bne_iff_ne.mpr c66
                          replace H := Option.bind_eq_some_iff.mp H
                          obtain ⟨⟨t178, t179⟩, A850, H⟩ := H
                          replace H : ((pluviallaw01_awake.f).bind fun t180 => (if t180 = true then ((pluvialref01_Less.f t178 t179 t154 t155).bind fun t181 => (some t181)) else (some false))) = some r := H
                          have A85 := Aside0.mk A850
                          clear A850
                          replace H := Option.bind_eq_some_iff.mp H
                          obtain ⟨t180, A860, H⟩ := H
                          replace H : (if t180 = true then ((pluvialref01_Less.f t178 t179 t154 t155).bind fun t181 => (some t181)) else (some false)) = some r := H
                          have A86 := Aside0.mk A860
                          clear A860
                          by_cases c87 : t180 = true
                          · subst c87
                            have H1 : ((pluvialref01_Less.f t178 t179 t154 t155).bind fun t181 => (some t181)) = some r := by rw [if_pos rfl] at H; exact H
                            clear H
                            have H := H1
                            clear H1
                            replace H := Option.bind_eq_some_iff.mp H
                            obtain ⟨t181, A880, H⟩ := H
                            replace H : (some t181) = some r := H
                            have A88 := Aside0.mk A880
                            clear A880
                            obtain rfl := Option.some.inj H
                            go_wp2_with (first | ((with_reducible refine gate_callee (f := 20) rfl ?_); refine goesL_ (some 95) rfl rfl Try.func20 (by kernel_rfl) rfl #[.int .u64 a0, .int .u64 a1, .int .u64 a2, .int .u64 a3] rfl (by (try simp only [List.map_toArray, List.map_cons, List.map_nil]); first | done | rfl | (simp only [List.length_drop, List.length_take]; rfl)) ?_; (with_reducible refine (num_Ratio.calls a0 a1 a2 a3 t166 _ A43.out).mono ?_); rintro e w89 ⟨rfl, hb⟩; refine ⟨_, rfl, ?_⟩; have n0_ := Aside0.mk (blk_below (g := gb152) (o := .cells #[.int .u64 t148, .int .u64 t149] 32 (0, 0)) (by (with_reducible repeat (first | refine blk_drewN ?_ _ | refine blk_drew ?_ | refine blk_alloc ?_ _)); exact BK152.out) hb); have n1_ := Aside0.mk (blk_below (g := gb153) (o := .cells #[.int .u64 t150, .int .u64 t151] 32 (0, 0)) (by (with_reducible repeat (first | refine blk_drewN ?_ _ | refine blk_drew ?_ | refine blk_alloc ?_ _)); exact BK153.out) hb); have n2_ := Aside0.mk (below_step (by repeat (first | (with_reducible first | exact HB.out | apply below_alloc | apply pw_below_drewN | apply below_drew1 | refine below_set ?_ GE152.out | refine below_set ?_ GE153.out) | exact HB.out)) hb); clear BK152; clear BK153; clear HB; have BK152 := n0_; have BK153 := n1_; have HB := n2_; clear n0_ n1_ n2_; (try clear hb); (try clear hb2); (try clear hk); (try clear hi); have hnb90 := NB152_153.out; have hnc90 := NB153_152.out; have hcz91_0 : w89.cell? ⟨gb152, 0, none⟩ = some (.int .u64 t148) := (blk_cell BK152.out 0).trans rfl; have hcz91_1 : w89.cell? ⟨gb152, 1, none⟩ = some (.int .u64 t149) := (blk_cell BK152.out 1).trans rfl; have hfz91_0 := blk_frozen BK152.out 0; have hfz91_1 := blk_frozen BK152.out 1; have hsz91_1 : ∀ A_ B_ : Value, ((w89.setCell ⟨gb152, 0, none⟩ A_).setCell ⟨gb152, 1, none⟩ B_).cell? ⟨gb152, 1, none⟩ = some B_ := fun A_ B_ => World.cell?_setCell_same _ _ _ ((World.cell?_setCell_other _ _ _ _ (by simp)).trans hcz91_1)) | ((with_reducible refine gate_callee (f := 21) rfl ?_); refine goesL_ (some 101) rfl rfl Try.func21 (by kernel_rfl) rfl #[.agg #[.int .u64 t148, .int .u64 t149], .int .u64 a4] rfl (by (try simp only [List.map_toArray, List.map_cons, List.map_nil]); first | done | rfl | (simp only [List.length_drop, List.length_take]; rfl)) ?_; (with_reducible refine (num_Wide_Ceil.calls kj40 t148 t149 a4 t167 t168 _ A45.out).mono ?_); rintro e w92 ⟨rfl, hb⟩; refine ⟨_, rfl, ?_⟩; have n0_ := Aside0.mk (blk_below (g := gb152) (o := .cells #[.int .u64 t148, .int .u64 t149] 32 (0, 0)) (by (with_reducible repeat (first | refine blk_drewN ?_ _ | refine blk_drew ?_ | refine blk_alloc ?_ _)); exact BK152.out) hb); have n1_ := Aside0.mk (blk_below (g := gb153) (o := .cells #[.int .u64 t150, .int .u64 t151] 32 (0, 0)) (by (with_reducible repeat (first | refine blk_drewN ?_ _ | refine blk_drew ?_ | refine blk_alloc ?_ _)); exact BK153.out) hb); have n2_ := Aside0.mk (below_step (by repeat (first | (with_reducible first | exact HB.out | apply below_alloc | apply pw_below_drewN | apply below_drew1 | refine below_set ?_ GE152.out | refine below_set ?_ GE153.out) | exact HB.out)) hb); clear BK152; clear BK153; clear HB; have BK152 := n0_; have BK153 := n1_; have HB := n2_; clear n0_ n1_ n2_; (try clear hb); (try clear hb2); (try clear hk); (try clear hi)) | ((with_reducible refine gate_callee (f := 17) rfl ?_); refine goesL_ (some 133) rfl rfl Try.func17 (by kernel_rfl) rfl #[.int .u64 t167, .int .u64 a4] rfl (by (try simp only [List.map_toArray, List.map_cons, List.map_nil]); first | done | rfl | (simp only [List.length_drop, List.length_take]; rfl)) ?_; (with_reducible refine (pluvialref01_Mul.calls kj40 t167 a4 t174 t175 _ A58.out).mono ?_); rintro e w93 ⟨rfl, hb⟩; refine ⟨_, rfl, ?_⟩; have n0_ := Aside0.mk (blk_below (g := gb152) (o := .cells #[.int .u64 t148, .int .u64 t149] 32 (0, 0)) (by (with_reducible repeat (first | refine blk_drewN ?_ _ | refine blk_drew ?_ | refine blk_alloc ?_ _)); exact BK152.out) hb); have n1_ := Aside0.mk (blk_below (g := gb153) (o := .cells #[.int .u64 t150, .int .u64 t151] 32 (0, 0)) (by (with_reducible repeat (first | refine blk_drewN ?_ _ | refine blk_drew ?_ | refine blk_alloc ?_ _)); exact BK153.out) hb); have n2_ := Aside0.mk (below_step (by repeat (first | (with_reducible first | exact HB.out | apply below_alloc | apply pw_below_drewN | apply below_drew1 | refine below_set ?_ GE152.out | refine below_set ?_ GE153.out) | exact HB.out)) hb); clear BK152; clear BK153; clear HB; have BK152 := n0_; have BK153 := n1_; have HB := n2_; clear n0_ n1_ n2_; (try clear hb); (try clear hb2); (try clear hk); (try clear hi)) | (go_at_call 19; (with_reducible refine (pluvialref01_Less.calls t174 t175 t154 t155 false _ A59.out).mono ?_); rintro e w' ⟨rfl, ⟨nd, rfl⟩⟩) | ((with_reducible refine gate_callee (f := 17) rfl ?_); refine goesL_ (some 156) rfl rfl Try.func17 (by kernel_rfl) rfl #[.int .u64 (IntKind.u64.wrap (t167 - 1)), .int .u64 a4] rfl (by (try simp only [List.map_toArray, List.map_cons, List.map_nil]); first | done | rfl | (simp only [List.length_drop, List.length_take]; rfl)) ?_; (with_reducible refine (pluvialref01_Mul.calls kj40 (IntKind.u64.wrap (t167 - 1)) a4 t178 t179 _ A85.out).mono ?_); rintro e w94 ⟨rfl, hb⟩; refine ⟨_, rfl, ?_⟩; have n0_ := Aside0.mk (blk_below (g := gb152) (o := .cells #[.int .u64 t148, .int .u64 t149] 32 (0, 0)) (by (with_reducible repeat (first | refine blk_drewN ?_ _ | refine blk_drew ?_ | refine blk_alloc ?_ _)); exact BK152.out) hb); have n1_ := Aside0.mk (blk_below (g := gb153) (o := .cells #[.int .u64 t150, .int .u64 t151] 32 (0, 0)) (by (with_reducible repeat (first | refine blk_drewN ?_ _ | refine blk_drew ?_ | refine blk_alloc ?_ _)); exact BK153.out) hb); have n2_ := Aside0.mk (below_step (by repeat (first | (with_reducible first | exact HB.out | apply below_alloc | apply pw_below_drewN | apply below_drew1 | refine below_set ?_ GE152.out | refine below_set ?_ GE153.out) | exact HB.out)) hb); clear BK152; clear BK153; clear HB; have BK152 := n0_; have BK153 := n1_; have HB := n2_; clear n0_ n1_ n2_; (try clear hb); (try clear hb2); (try clear hk); (try clear hi)) | (go_at_call 11; (with_reducible refine (pluviallaw01_awake.calls  true _ A86.out).mono ?_); rintro e w' ⟨rfl, ⟨nd, rfl⟩⟩) | (go_at_call 19; (with_reducible refine (pluvialref01_Less.calls t178 t179 t154 t155 t181 _ A88.out).mono ?_); rintro e w' ⟨rfl, ⟨nd, rfl⟩⟩))
                            go_ret
                            exact ⟨by first | rfl | (simp [errW_none, errW_some] <;> rfl) | (simp [*, errW_none, errW_some] <;> rfl), by repeat (first | (with_reducible first | exact HB.out | apply below_alloc | apply pw_below_drewN | apply below_drew1 | refine below_set ?_ GE152.out | refine below_set ?_ GE153.out) | exact HB.out)⟩
                          · replace c87 := Bool.eq_false_iff.mpr c87
                            subst c87
                            have H1 : (some false) = some r := by rw [if_neg (show ¬ (false = true) by decide)] at H; exact H
                            clear H
                            have H := H1
                            clear H1
                            obtain rfl := Option.some.inj H
                            go_wp2_with (first | ((with_reducible refine gate_callee (f := 20) rfl ?_); refine goesL_ (some 95) rfl rfl Try.func20 (by kernel_rfl) rfl #[.int .u64 a0, .int .u64 a1, .int .u64 a2, .int .u64 a3] rfl (by (try simp only [List.map_toArray, List.map_cons, List.map_nil]); first | done | rfl | (simp only [List.length_drop, List.length_take]; rfl)) ?_; (with_reducible refine (num_Ratio.calls a0 a1 a2 a3 t166 _ A43.out).mono ?_); rintro e w95 ⟨rfl, hb⟩; refine ⟨_, rfl, ?_⟩; have n0_ := Aside0.mk (blk_below (g := gb152) (o := .cells #[.int .u64 t148, .int .u64 t149] 32 (0, 0)) (by (with_reducible repeat (first | refine blk_drewN ?_ _ | refine blk_drew ?_ | refine blk_alloc ?_ _)); exact BK152.out) hb); have n1_ := Aside0.mk (blk_below (g := gb153) (o := .cells #[.int .u64 t150, .int .u64 t151] 32 (0, 0)) (by (with_reducible repeat (first | refine blk_drewN ?_ _ | refine blk_drew ?_ | refine blk_alloc ?_ _)); exact BK153.out) hb); have n2_ := Aside0.mk (below_step (by repeat (first | (with_reducible first | exact HB.out | apply below_alloc | apply pw_below_drewN | apply below_drew1 | refine below_set ?_ GE152.out | refine below_set ?_ GE153.out) | exact HB.out)) hb); clear BK152; clear BK153; clear HB; have BK152 := n0_; have BK153 := n1_; have HB := n2_; clear n0_ n1_ n2_; (try clear hb); (try clear hb2); (try clear hk); (try clear hi); have hnb96 := NB152_153.out; have hnc96 := NB153_152.out; have hcz97_0 : w95.cell? ⟨gb152, 0, none⟩ = some (.int .u64 t148) := (blk_cell BK152.out 0).trans rfl; have hcz97_1 : w95.cell? ⟨gb152, 1, none⟩ = some (.int .u64 t149) := (blk_cell BK152.out 1).trans rfl; have hfz97_0 := blk_frozen BK152.out 0; have hfz97_1 := blk_frozen BK152.out 1; have hsz97_1 : ∀ A_ B_ : Value, ((w95.setCell ⟨gb152, 0, none⟩ A_).setCell ⟨gb152, 1, none⟩ B_).cell? ⟨gb152, 1, none⟩ = some B_ := fun A_ B_ => World.cell?_setCell_same _ _ _ ((World.cell?_setCell_other _ _ _ _ (by simp)).trans hcz97_1)) | ((with_reducible refine gate_callee (f := 21) rfl ?_); refine goesL_ (some 101) rfl rfl Try.func21 (by kernel_rfl) rfl #[.agg #[.int .u64 t148, .int .u64 t149], .int .u64 a4] rfl (by (try simp only [List.map_toArray, List.map_cons, List.map_nil]); first | done | rfl | (simp only [List.length_drop, List.length_take]; rfl)) ?_; (with_reducible refine (num_Wide_Ceil.calls kj40 t148 t149 a4 t167 t168 _ A45.out).mono ?_); rintro e w98 ⟨rfl, hb⟩; refine ⟨_, rfl, ?_⟩; have n0_ := Aside0.mk (blk_below (g := gb152) (o := .cells #[.int .u64 t148, .int .u64 t149] 32 (0, 0)) (by (with_reducible repeat (first | refine blk_drewN ?_ _ | refine blk_drew ?_ | refine blk_alloc ?_ _)); exact BK152.out) hb); have n1_ := Aside0.mk (blk_below (g := gb153) (o := .cells #[.int .u64 t150, .int .u64 t151] 32 (0, 0)) (by (with_reducible repeat (first | refine blk_drewN ?_ _ | refine blk_drew ?_ | refine blk_alloc ?_ _)); exact BK153.out) hb); have n2_ := Aside0.mk (below_step (by repeat (first | (with_reducible first | exact HB.out | apply below_alloc | apply pw_below_drewN | apply below_drew1 | refine below_set ?_ GE152.out | refine below_set ?_ GE153.out) | exact HB.out)) hb); clear BK152; clear BK153; clear HB; have BK152 := n0_; have BK153 := n1_; have HB := n2_; clear n0_ n1_ n2_; (try clear hb); (try clear hb2); (try clear hk); (try clear hi)) | ((with_reducible refine gate_callee (f := 17) rfl ?_); refine goesL_ (some 133) rfl rfl Try.func17 (by kernel_rfl) rfl #[.int .u64 t167, .int .u64 a4] rfl (by (try simp only [List.map_toArray, List.map_cons, List.map_nil]); first | done | rfl | (simp only [List.length_drop, List.length_take]; rfl)) ?_; (with_reducible refine (pluvialref01_Mul.calls kj40 t167 a4 t174 t175 _ A58.out).mono ?_); rintro e w99 ⟨rfl, hb⟩; refine ⟨_, rfl, ?_⟩; have n0_ := Aside0.mk (blk_below (g := gb152) (o := .cells #[.int .u64 t148, .int .u64 t149] 32 (0, 0)) (by (with_reducible repeat (first | refine blk_drewN ?_ _ | refine blk_drew ?_ | refine blk_alloc ?_ _)); exact BK152.out) hb); have n1_ := Aside0.mk (blk_below (g := gb153) (o := .cells #[.int .u64 t150, .int .u64 t151] 32 (0, 0)) (by (with_reducible repeat (first | refine blk_drewN ?_ _ | refine blk_drew ?_ | refine blk_alloc ?_ _)); exact BK153.out) hb); have n2_ := Aside0.mk (below_step (by repeat (first | (with_reducible first | exact HB.out | apply below_alloc | apply pw_below_drewN | apply below_drew1 | refine below_set ?_ GE152.out | refine below_set ?_ GE153.out) | exact HB.out)) hb); clear BK152; clear BK153; clear HB; have BK152 := n0_; have BK153 := n1_; have HB := n2_; clear n0_ n1_ n2_; (try clear hb); (try clear hb2); (try clear hk); (try clear hi)) | (go_at_call 19; (with_reducible refine (pluvialref01_Less.calls t174 t175 t154 t155 false _ A59.out).mono ?_); rintro e w' ⟨rfl, ⟨nd, rfl⟩⟩) | ((with_reducible refine gate_callee (f := 17) rfl ?_); refine goesL_ (some 156) rfl rfl Try.func17 (by kernel_rfl) rfl #[.int .u64 (IntKind.u64.wrap (t167 - 1)), .int .u64 a4] rfl (by (try simp only [List.map_toArray, List.map_cons, List.map_nil]); first | done | rfl | (simp only [List.length_drop, List.length_take]; rfl)) ?_; (with_reducible refine (pluvialref01_Mul.calls kj40 (IntKind.u64.wrap (t167 - 1)) a4 t178 t179 _ A85.out).mono ?_); rintro e w100 ⟨rfl, hb⟩; refine ⟨_, rfl, ?_⟩; have n0_ := Aside0.mk (blk_below (g := gb152) (o := .cells #[.int .u64 t148, .int .u64 t149] 32 (0, 0)) (by (with_reducible repeat (first | refine blk_drewN ?_ _ | refine blk_drew ?_ | refine blk_alloc ?_ _)); exact BK152.out) hb); have n1_ := Aside0.mk (blk_below (g := gb153) (o := .cells #[.int .u64 t150, .int .u64 t151] 32 (0, 0)) (by (with_reducible repeat (first | refine blk_drewN ?_ _ | refine blk_drew ?_ | refine blk_alloc ?_ _)); exact BK153.out) hb); have n2_ := Aside0.mk (below_step (by repeat (first | (with_reducible first | exact HB.out | apply below_alloc | apply pw_below_drewN | apply below_drew1 | refine below_set ?_ GE152.out | refine below_set ?_ GE153.out) | exact HB.out)) hb); clear BK152; clear BK153; clear HB; have BK152 := n0_; have BK153 := n1_; have HB := n2_; clear n0_ n1_ n2_; (try clear hb); (try clear hb2); (try clear hk); (try clear hi)) | (go_at_call 11; (with_reducible refine (pluviallaw01_awake.calls  false _ A86.out).mono ?_); rintro e w' ⟨rfl, ⟨nd, rfl⟩⟩))
                            go_ret
                            exact ⟨by first | rfl | (simp [errW_none, errW_some] <;> rfl) | (simp [*, errW_none, errW_some] <;> rfl), by repeat (first | (with_reducible first | exact HB.out | apply below_alloc | apply pw_below_drewN | apply below_drew1 | refine below_set ?_ GE152.out | refine below_set ?_ GE153.out) | exact HB.out)⟩
                    · rw [if_neg c57] at H
                      have c57b0 : (t168 == 0) = false := beq_eq_false_iff_ne.mpr c57
                      have c57b1 : (t168 != 0) = true := bne_iff_ne.mpr c57
                      replace H := Option.bind_eq_some_iff.mp H
                      obtain ⟨⟨t170, t171⟩, A1010, H⟩ := H
                      replace H : ((pluviallaw01_awake.f).bind fun t172 => (if t172 = true then (if t168 = 5 then ((pluvialref01_Less.f t170 t171 t154 t155).bind fun t173 => (some t173)) else (some false)) else (some false))) = some r := H
                      have A101 := Aside0.mk A1010
                      clear A1010
                      replace H := Option.bind_eq_some_iff.mp H
                      obtain ⟨t172, A1020, H⟩ := H
                      replace H : (if t172 = true then (if t168 = 5 then ((pluvialref01_Less.f t170 t171 t154 t155).bind fun t173 => (some t173)) else (some false)) else (some false)) = some r := H
                      have A102 := Aside0.mk A1020
                      clear A1020
                      by_cases c103 : t172 = true
                      · subst c103
                        have H1 : (if t168 = 5 then ((pluvialref01_Less.f t170 t171 t154 t155).bind fun t173 => (some t173)) else (some false)) = some r := by rw [if_pos rfl] at H; exact H
                        clear H
                        have H := H1
                        clear H1
                        by_cases c104 : t168 = 5
                        · rw [if_pos c104] at H
                          have c104b0 : (t168 == 5) = true := beq_iff_eq.mpr c104
                          have c104b1 : (t168 != 5) = false := bne_eq_false_iff_eq.mpr c104
                          clear c104
                          replace H := Option.bind_eq_some_iff.mp H
                          obtain ⟨t173, A1050, H⟩ := H
                          replace H : (some t173) = some r := H
                          have A105 := Aside0.mk A1050
                          clear A1050
                          obtain rfl := Option.some.inj H
                          go_wp2_with (first | ((with_reducible refine gate_callee (f := 20) rfl ?_); refine goesL_ (some 95) rfl rfl Try.func20 (by kernel_rfl) rfl #[.int .u64 a0, .int .u64 a1, .int .u64 a2, .int .u64 a3] rfl (by (try simp only [List.map_toArray, List.map_cons, List.map_nil]); first | done | rfl | (simp only [List.length_drop, List.length_take]; rfl)) ?_; (with_reducible refine (num_Ratio.calls a0 a1 a2 a3 t166 _ A43.out).mono ?_); rintro e w106 ⟨rfl, hb⟩; refine ⟨_, rfl, ?_⟩; have n0_ := Aside0.mk (blk_below (g := gb152) (o := .cells #[.int .u64 t148, .int .u64 t149] 32 (0, 0)) (by (with_reducible repeat (first | refine blk_drewN ?_ _ | refine blk_drew ?_ | refine blk_alloc ?_ _)); exact BK152.out) hb); have n1_ := Aside0.mk (blk_below (g := gb153) (o := .cells #[.int .u64 t150, .int .u64 t151] 32 (0, 0)) (by (with_reducible repeat (first | refine blk_drewN ?_ _ | refine blk_drew ?_ | refine blk_alloc ?_ _)); exact BK153.out) hb); have n2_ := Aside0.mk (below_step (by repeat (first | (with_reducible first | exact HB.out | apply below_alloc | apply pw_below_drewN | apply below_drew1 | refine below_set ?_ GE152.out | refine below_set ?_ GE153.out) | exact HB.out)) hb); clear BK152; clear BK153; clear HB; have BK152 := n0_; have BK153 := n1_; have HB := n2_; clear n0_ n1_ n2_; (try clear hb); (try clear hb2); (try clear hk); (try clear hi); have hnb107 := NB152_153.out; have hnc107 := NB153_152.out; have hcz108_0 : w106.cell? ⟨gb152, 0, none⟩ = some (.int .u64 t148) := (blk_cell BK152.out 0).trans rfl; have hcz108_1 : w106.cell? ⟨gb152, 1, none⟩ = some (.int .u64 t149) := (blk_cell BK152.out 1).trans rfl; have hfz108_0 := blk_frozen BK152.out 0; have hfz108_1 := blk_frozen BK152.out 1; have hsz108_1 : ∀ A_ B_ : Value, ((w106.setCell ⟨gb152, 0, none⟩ A_).setCell ⟨gb152, 1, none⟩ B_).cell? ⟨gb152, 1, none⟩ = some B_ := fun A_ B_ => World.cell?_setCell_same _ _ _ ((World.cell?_setCell_other _ _ _ _ (by simp)).trans hcz108_1)) | ((with_reducible refine gate_callee (f := 21) rfl ?_); refine goesL_ (some 101) rfl rfl Try.func21 (by kernel_rfl) rfl #[.agg #[.int .u64 t148, .int .u64 t149], .int .u64 a4] rfl (by (try simp only [List.map_toArray, List.map_cons, List.map_nil]); first | done | rfl | (simp only [List.length_drop, List.length_take]; rfl)) ?_; (with_reducible refine (num_Wide_Ceil.calls kj40 t148 t149 a4 t167 t168 _ A45.out).mono ?_); rintro e w109 ⟨rfl, hb⟩; refine ⟨_, rfl, ?_⟩; have n0_ := Aside0.mk (blk_below (g := gb152) (o := .cells #[.int .u64 t148, .int .u64 t149] 32 (0, 0)) (by (with_reducible repeat (first | refine blk_drewN ?_ _ | refine blk_drew ?_ | refine blk_alloc ?_ _)); exact BK152.out) hb); have n1_ := Aside0.mk (blk_below (g := gb153) (o := .cells #[.int .u64 t150, .int .u64 t151] 32 (0, 0)) (by (with_reducible repeat (first | refine blk_drewN ?_ _ | refine blk_drew ?_ | refine blk_alloc ?_ _)); exact BK153.out) hb); have n2_ := Aside0.mk (below_step (by repeat (first | (with_reducible first | exact HB.out | apply below_alloc | apply pw_below_drewN | apply below_drew1 | refine below_set ?_ GE152.out | refine below_set ?_ GE153.out) | exact HB.out)) hb); clear BK152; clear BK153; clear HB; have BK152 := n0_; have BK153 := n1_; have HB := n2_; clear n0_ n1_ n2_; (try clear hb); (try clear hb2); (try clear hk); (try clear hi)) | ((with_reducible refine gate_callee (f := 17) rfl ?_); refine goesL_ (some 115) rfl rfl Try.func17 (by kernel_rfl) rfl #[.int .u64 18446744073709551615, .int .u64 a4] rfl (by (try simp only [List.map_toArray, List.map_cons, List.map_nil]); first | done | rfl | (simp only [List.length_drop, List.length_take]; rfl)) ?_; (with_reducible refine (pluvialref01_Mul.calls kj40 18446744073709551615 a4 t170 t171 _ A101.out).mono ?_); rintro e w110 ⟨rfl, hb⟩; refine ⟨_, rfl, ?_⟩; have n0_ := Aside0.mk (blk_below (g := gb152) (o := .cells #[.int .u64 t148, .int .u64 t149] 32 (0, 0)) (by (with_reducible repeat (first | refine blk_drewN ?_ _ | refine blk_drew ?_ | refine blk_alloc ?_ _)); exact BK152.out) hb); have n1_ := Aside0.mk (blk_below (g := gb153) (o := .cells #[.int .u64 t150, .int .u64 t151] 32 (0, 0)) (by (with_reducible repeat (first | refine blk_drewN ?_ _ | refine blk_drew ?_ | refine blk_alloc ?_ _)); exact BK153.out) hb); have n2_ := Aside0.mk (below_step (by repeat (first | (with_reducible first | exact HB.out | apply below_alloc | apply pw_below_drewN | apply below_drew1 | refine below_set ?_ GE152.out | refine below_set ?_ GE153.out) | exact HB.out)) hb); clear BK152; clear BK153; clear HB; have BK152 := n0_; have BK153 := n1_; have HB := n2_; clear n0_ n1_ n2_; (try clear hb); (try clear hb2); (try clear hk); (try clear hi)) | (go_at_call 11; (with_reducible refine (pluviallaw01_awake.calls  true _ A102.out).mono ?_); rintro e w' ⟨rfl, ⟨nd, rfl⟩⟩) | (go_at_call 19; (with_reducible refine (pluvialref01_Less.calls t170 t171 t154 t155 t173 _ A105.out).mono ?_); rintro e w' ⟨rfl, ⟨nd, rfl⟩⟩))
                          go_ret
                          exact ⟨by first | rfl | (simp [errW_none, errW_some] <;> rfl) | (simp [*, errW_none, errW_some] <;> rfl), by repeat (first | (with_reducible first | exact HB.out | apply below_alloc | apply pw_below_drewN | apply below_drew1 | refine below_set ?_ GE152.out | refine below_set ?_ GE153.out) | exact HB.out)⟩
                        · rw [if_neg c104] at H
                          have c104b0 : (t168 == 5) = false := beq_eq_false_iff_ne.mpr c104
                          have c104b1 : (t168 != 5) = true := bne_iff_ne.mpr c104
                          obtain rfl := Option.some.inj H
                          go_wp2_with (first | ((with_reducible refine gate_callee (f := 20) rfl ?_); refine goesL_ (some 95) rfl rfl Try.func20 (by kernel_rfl) rfl #[.int .u64 a0, .int .u64 a1, .int .u64 a2, .int .u64 a3] rfl (by (try simp only [List.map_toArray, List.map_cons, List.map_nil]); first | done | rfl | (simp only [List.length_drop, List.length_take]; rfl)) ?_; (with_reducible refine (num_Ratio.calls a0 a1 a2 a3 t166 _ A43.out).mono ?_); rintro e w111 ⟨rfl, hb⟩; refine ⟨_, rfl, ?_⟩; have n0_ := Aside0.mk (blk_below (g := gb152) (o := .cells #[.int .u64 t148, .int .u64 t149] 32 (0, 0)) (by (with_reducible repeat (first | refine blk_drewN ?_ _ | refine blk_drew ?_ | refine blk_alloc ?_ _)); exact BK152.out) hb); have n1_ := Aside0.mk (blk_below (g := gb153) (o := .cells #[.int .u64 t150, .int .u64 t151] 32 (0, 0)) (by (with_reducible repeat (first | refine blk_drewN ?_ _ | refine blk_drew ?_ | refine blk_alloc ?_ _)); exact BK153.out) hb); have n2_ := Aside0.mk (below_step (by repeat (first | (with_reducible first | exact HB.out | apply below_alloc | apply pw_below_drewN | apply below_drew1 | refine below_set ?_ GE152.out | refine below_set ?_ GE153.out) | exact HB.out)) hb); clear BK152; clear BK153; clear HB; have BK152 := n0_; have BK153 := n1_; have HB := n2_; clear n0_ n1_ n2_; (try clear hb); (try clear hb2); (try clear hk); (try clear hi); have hnb112 := NB152_153.out; have hnc112 := NB153_152.out; have hcz113_0 : w111.cell? ⟨gb152, 0, none⟩ = some (.int .u64 t148) := (blk_cell BK152.out 0).trans rfl; have hcz113_1 : w111.cell? ⟨gb152, 1, none⟩ = some (.int .u64 t149) := (blk_cell BK152.out 1).trans rfl; have hfz113_0 := blk_frozen BK152.out 0; have hfz113_1 := blk_frozen BK152.out 1; have hsz113_1 : ∀ A_ B_ : Value, ((w111.setCell ⟨gb152, 0, none⟩ A_).setCell ⟨gb152, 1, none⟩ B_).cell? ⟨gb152, 1, none⟩ = some B_ := fun A_ B_ => World.cell?_setCell_same _ _ _ ((World.cell?_setCell_other _ _ _ _ (by simp)).trans hcz113_1)) | ((with_reducible refine gate_callee (f := 21) rfl ?_); refine goesL_ (some 101) rfl rfl Try.func21 (by kernel_rfl) rfl #[.agg #[.int .u64 t148, .int .u64 t149], .int .u64 a4] rfl (by (try simp only [List.map_toArray, List.map_cons, List.map_nil]); first | done | rfl | (simp only [List.length_drop, List.length_take]; rfl)) ?_; (with_reducible refine (num_Wide_Ceil.calls kj40 t148 t149 a4 t167 t168 _ A45.out).mono ?_); rintro e w114 ⟨rfl, hb⟩; refine ⟨_, rfl, ?_⟩; have n0_ := Aside0.mk (blk_below (g := gb152) (o := .cells #[.int .u64 t148, .int .u64 t149] 32 (0, 0)) (by (with_reducible repeat (first | refine blk_drewN ?_ _ | refine blk_drew ?_ | refine blk_alloc ?_ _)); exact BK152.out) hb); have n1_ := Aside0.mk (blk_below (g := gb153) (o := .cells #[.int .u64 t150, .int .u64 t151] 32 (0, 0)) (by (with_reducible repeat (first | refine blk_drewN ?_ _ | refine blk_drew ?_ | refine blk_alloc ?_ _)); exact BK153.out) hb); have n2_ := Aside0.mk (below_step (by repeat (first | (with_reducible first | exact HB.out | apply below_alloc | apply pw_below_drewN | apply below_drew1 | refine below_set ?_ GE152.out | refine below_set ?_ GE153.out) | exact HB.out)) hb); clear BK152; clear BK153; clear HB; have BK152 := n0_; have BK153 := n1_; have HB := n2_; clear n0_ n1_ n2_; (try clear hb); (try clear hb2); (try clear hk); (try clear hi)) | ((with_reducible refine gate_callee (f := 17) rfl ?_); refine goesL_ (some 115) rfl rfl Try.func17 (by kernel_rfl) rfl #[.int .u64 18446744073709551615, .int .u64 a4] rfl (by (try simp only [List.map_toArray, List.map_cons, List.map_nil]); first | done | rfl | (simp only [List.length_drop, List.length_take]; rfl)) ?_; (with_reducible refine (pluvialref01_Mul.calls kj40 18446744073709551615 a4 t170 t171 _ A101.out).mono ?_); rintro e w115 ⟨rfl, hb⟩; refine ⟨_, rfl, ?_⟩; have n0_ := Aside0.mk (blk_below (g := gb152) (o := .cells #[.int .u64 t148, .int .u64 t149] 32 (0, 0)) (by (with_reducible repeat (first | refine blk_drewN ?_ _ | refine blk_drew ?_ | refine blk_alloc ?_ _)); exact BK152.out) hb); have n1_ := Aside0.mk (blk_below (g := gb153) (o := .cells #[.int .u64 t150, .int .u64 t151] 32 (0, 0)) (by (with_reducible repeat (first | refine blk_drewN ?_ _ | refine blk_drew ?_ | refine blk_alloc ?_ _)); exact BK153.out) hb); have n2_ := Aside0.mk (below_step (by repeat (first | (with_reducible first | exact HB.out | apply below_alloc | apply pw_below_drewN | apply below_drew1 | refine below_set ?_ GE152.out | refine below_set ?_ GE153.out) | exact HB.out)) hb); clear BK152; clear BK153; clear HB; have BK152 := n0_; have BK153 := n1_; have HB := n2_; clear n0_ n1_ n2_; (try clear hb); (try clear hb2); (try clear hk); (try clear hi)) | (go_at_call 11; (with_reducible refine (pluviallaw01_awake.calls  true _ A102.out).mono ?_); rintro e w' ⟨rfl, ⟨nd, rfl⟩⟩))
                          go_ret
                          exact ⟨by first | rfl | (simp [errW_none, errW_some] <;> rfl) | (simp [*, errW_none, errW_some] <;> rfl), by repeat (first | (with_reducible first | exact HB.out | apply below_alloc | apply pw_below_drewN | apply below_drew1 | refine below_set ?_ GE152.out | refine below_set ?_ GE153.out) | exact HB.out)⟩
                      · replace c103 := Bool.eq_false_iff.mpr c103
                        subst c103
                        have H1 : (some false) = some r := by rw [if_neg (show ¬ (false = true) by decide)] at H; exact H
                        clear H
                        have H := H1
                        clear H1
                        obtain rfl := Option.some.inj H
                        go_wp2_with (first | ((with_reducible refine gate_callee (f := 20) rfl ?_); refine goesL_ (some 95) rfl rfl Try.func20 (by kernel_rfl) rfl #[.int .u64 a0, .int .u64 a1, .int .u64 a2, .int .u64 a3] rfl (by (try simp only [List.map_toArray, List.map_cons, List.map_nil]); first | done | rfl | (simp only [List.length_drop, List.length_take]; rfl)) ?_; (with_reducible refine (num_Ratio.calls a0 a1 a2 a3 t166 _ A43.out).mono ?_); rintro e w116 ⟨rfl, hb⟩; refine ⟨_, rfl, ?_⟩; have n0_ := Aside0.mk (blk_below (g := gb152) (o := .cells #[.int .u64 t148, .int .u64 t149] 32 (0, 0)) (by (with_reducible repeat (first | refine blk_drewN ?_ _ | refine blk_drew ?_ | refine blk_alloc ?_ _)); exact BK152.out) hb); have n1_ := Aside0.mk (blk_below (g := gb153) (o := .cells #[.int .u64 t150, .int .u64 t151] 32 (0, 0)) (by (with_reducible repeat (first | refine blk_drewN ?_ _ | refine blk_drew ?_ | refine blk_alloc ?_ _)); exact BK153.out) hb); have n2_ := Aside0.mk (below_step (by repeat (first | (with_reducible first | exact HB.out | apply below_alloc | apply pw_below_drewN | apply below_drew1 | refine below_set ?_ GE152.out | refine below_set ?_ GE153.out) | exact HB.out)) hb); clear BK152; clear BK153; clear HB; have BK152 := n0_; have BK153 := n1_; have HB := n2_; clear n0_ n1_ n2_; (try clear hb); (try clear hb2); (try clear hk); (try clear hi); have hnb117 := NB152_153.out; have hnc117 := NB153_152.out; have hcz118_0 : w116.cell? ⟨gb152, 0, none⟩ = some (.int .u64 t148) := (blk_cell BK152.out 0).trans rfl; have hcz118_1 : w116.cell? ⟨gb152, 1, none⟩ = some (.int .u64 t149) := (blk_cell BK152.out 1).trans rfl; have hfz118_0 := blk_frozen BK152.out 0; have hfz118_1 := blk_frozen BK152.out 1; have hsz118_1 : ∀ A_ B_ : Value, ((w116.setCell ⟨gb152, 0, none⟩ A_).setCell ⟨gb152, 1, none⟩ B_).cell? ⟨gb152, 1, none⟩ = some B_ := fun A_ B_ => World.cell?_setCell_same _ _ _ ((World.cell?_setCell_other _ _ _ _ (by simp)).trans hcz118_1)) | ((with_reducible refine gate_callee (f := 21) rfl ?_); refine goesL_ (some 101) rfl rfl Try.func21 (by kernel_rfl) rfl #[.agg #[.int .u64 t148, .int .u64 t149], .int .u64 a4] rfl (by (try simp only [List.map_toArray, List.map_cons, List.map_nil]); first | done | rfl | (simp only [List.length_drop, List.length_take]; rfl)) ?_; (with_reducible refine (num_Wide_Ceil.calls kj40 t148 t149 a4 t167 t168 _ A45.out).mono ?_); rintro e w119 ⟨rfl, hb⟩; refine ⟨_, rfl, ?_⟩; have n0_ := Aside0.mk (blk_below (g := gb152) (o := .cells #[.int .u64 t148, .int .u64 t149] 32 (0, 0)) (by (with_reducible repeat (first | refine blk_drewN ?_ _ | refine blk_drew ?_ | refine blk_alloc ?_ _)); exact BK152.out) hb); have n1_ := Aside0.mk (blk_below (g := gb153) (o := .cells #[.int .u64 t150, .int .u64 t151] 32 (0, 0)) (by (with_reducible repeat (first | refine blk_drewN ?_ _ | refine blk_drew ?_ | refine blk_alloc ?_ _)); exact BK153.out) hb); have n2_ := Aside0.mk (below_step (by repeat (first | (with_reducible first | exact HB.out | apply below_alloc | apply pw_below_drewN | apply below_drew1 | refine below_set ?_ GE152.out | refine below_set ?_ GE153.out) | exact HB.out)) hb); clear BK152; clear BK153; clear HB; have BK152 := n0_; have BK153 := n1_; have HB := n2_; clear n0_ n1_ n2_; (try clear hb); (try clear hb2); (try clear hk); (try clear hi)) | ((with_reducible refine gate_callee (f := 17) rfl ?_); refine goesL_ (some 115) rfl rfl Try.func17 (by kernel_rfl) rfl #[.int .u64 18446744073709551615, .int .u64 a4] rfl (by (try simp only [List.map_toArray, List.map_cons, List.map_nil]); first | done | rfl | (simp only [List.length_drop, List.length_take]; rfl)) ?_; (with_reducible refine (pluvialref01_Mul.calls kj40 18446744073709551615 a4 t170 t171 _ A101.out).mono ?_); rintro e w120 ⟨rfl, hb⟩; refine ⟨_, rfl, ?_⟩; have n0_ := Aside0.mk (blk_below (g := gb152) (o := .cells #[.int .u64 t148, .int .u64 t149] 32 (0, 0)) (by (with_reducible repeat (first | refine blk_drewN ?_ _ | refine blk_drew ?_ | refine blk_alloc ?_ _)); exact BK152.out) hb); have n1_ := Aside0.mk (blk_below (g := gb153) (o := .cells #[.int .u64 t150, .int .u64 t151] 32 (0, 0)) (by (with_reducible repeat (first | refine blk_drewN ?_ _ | refine blk_drew ?_ | refine blk_alloc ?_ _)); exact BK153.out) hb); have n2_ := Aside0.mk (below_step (by repeat (first | (with_reducible first | exact HB.out | apply below_alloc | apply pw_below_drewN | apply below_drew1 | refine below_set ?_ GE152.out | refine below_set ?_ GE153.out) | exact HB.out)) hb); clear BK152; clear BK153; clear HB; have BK152 := n0_; have BK153 := n1_; have HB := n2_; clear n0_ n1_ n2_; (try clear hb); (try clear hb2); (try clear hk); (try clear hi)) | (go_at_call 11; (with_reducible refine (pluviallaw01_awake.calls  false _ A102.out).mono ?_); rintro e w' ⟨rfl, ⟨nd, rfl⟩⟩))
                        go_ret
                        exact ⟨by first | rfl | (simp [errW_none, errW_some] <;> rfl) | (simp [*, errW_none, errW_some] <;> rfl), by repeat (first | (with_reducible first | exact HB.out | apply below_alloc | apply pw_below_drewN | apply below_drew1 | refine below_set ?_ GE152.out | refine below_set ?_ GE153.out) | exact HB.out)⟩
                · rw [if_neg c44] at H
                  have c44b0 : (t166 == x21_40) = false := beq_eq_false_iff_ne.mpr c44
                  have c44b1 : (t166 != x21_40) = true := bne_iff_ne.mpr c44
                  obtain rfl := Option.some.inj H
                  go_wp2_with (first | ((with_reducible refine gate_callee (f := 20) rfl ?_); refine goesL_ (some 95) rfl rfl Try.func20 (by kernel_rfl) rfl #[.int .u64 a0, .int .u64 a1, .int .u64 a2, .int .u64 a3] rfl (by (try simp only [List.map_toArray, List.map_cons, List.map_nil]); first | done | rfl | (simp only [List.length_drop, List.length_take]; rfl)) ?_; (with_reducible refine (num_Ratio.calls a0 a1 a2 a3 t166 _ A43.out).mono ?_); rintro e w121 ⟨rfl, hb⟩; refine ⟨_, rfl, ?_⟩; have n0_ := Aside0.mk (blk_below (g := gb152) (o := .cells #[.int .u64 t148, .int .u64 t149] 32 (0, 0)) (by (with_reducible repeat (first | refine blk_drewN ?_ _ | refine blk_drew ?_ | refine blk_alloc ?_ _)); exact BK152.out) hb); have n1_ := Aside0.mk (blk_below (g := gb153) (o := .cells #[.int .u64 t150, .int .u64 t151] 32 (0, 0)) (by (with_reducible repeat (first | refine blk_drewN ?_ _ | refine blk_drew ?_ | refine blk_alloc ?_ _)); exact BK153.out) hb); have n2_ := Aside0.mk (below_step (by repeat (first | (with_reducible first | exact HB.out | apply below_alloc | apply pw_below_drewN | apply below_drew1 | refine below_set ?_ GE152.out | refine below_set ?_ GE153.out) | exact HB.out)) hb); clear BK152; clear BK153; clear HB; have BK152 := n0_; have BK153 := n1_; have HB := n2_; clear n0_ n1_ n2_; (try clear hb); (try clear hb2); (try clear hk); (try clear hi)))
                  go_ret
                  exact ⟨by first | rfl | (simp [errW_none, errW_some] <;> rfl) | (simp [*, errW_none, errW_some] <;> rfl), by repeat (first | (with_reducible first | exact HB.out | apply below_alloc | apply pw_below_drewN | apply below_drew1 | refine below_set ?_ GE152.out | refine below_set ?_ GE153.out) | exact HB.out)⟩

/-- THE ONE PURE STATEMENT of pluviallaw01_NumWides: yours. -/
def pluviallaw01_NumWides.Pure : Prop := ∀ (a0 : Int) (a1 : Int) (a2 : Int) (a3 : Int) (a4 : Int), (Lit.int .u64 a0).wf = true → (Lit.int .u64 a1).wf = true → (Lit.int .u64 a2).wf = true → (Lit.int .u64 a3).wf = true → (Lit.int .u64 a4).wf = true → ∃ k, pluviallaw01_NumWides.f k a0 a1 a2 a3 a4 = some true
theorem pluviallaw01_NumWides.walk (P : pluviallaw01_NumWides.Pure) (a0 : Int) (a1 : Int) (a2 : Int) (a3 : Int) (a4 : Int) (w : World) (w0 : (Lit.int .u64 a0).wf = true) (w1 : (Lit.int .u64 a1).wf = true) (w2 : (Lit.int .u64 a2).wf = true) (w3 : (Lit.int .u64 a3).wf = true) (w4 : (Lit.int .u64 a4).wf = true) :
    Calls Try.prog 5 #[.int .u64 a0, .int .u64 a1, .int .u64 a2, .int .u64 a3, .int .u64 a4] w fun e w' => e = .returned (.bool true) ∧ Below w.heap.size w w' := by
  obtain ⟨k, h⟩ := P a0 a1 a2 a3 a4 w0 w1 w2 w3 w4
  refine (pluviallaw01_NumWides.calls k a0 a1 a2 a3 a4 true w h).mono ?_
  rintro e w' ⟨rfl, hd⟩
  exact ⟨rfl, hd⟩

end Go.Proofs.Ytdonphglmeimbaa.QNumWides
