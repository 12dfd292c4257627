-- Written by a program of the session (wip/xprint.sh, wip/xpatch.py; a variant of the print) out of the translation. Lean checks it.
import Derived.Test.YtpdhcgicnhgfoaaQSpanJoinsx0
import Derived.Test.YtpdhcgicnhgfoaaQSpanJoinsx1
import Derived.Test.YtpdhcgicnhgfoaaQSpanJoinsx3
import Derived.Test.YtpdhcgicnhgfoaaQSpanJoinsx4
import Derived.Test.YtpdhcgicnhgfoaaQSpanJoinsx5
import Derived.Test.YtpdhcgicnhgfoaaQSpanJoinsx6
import Derived.Test.YtpdhcgicnhgfoaaQSpanJoinsx7
namespace Go.Proofs.Ytpdhcgicnhgfoaa.QSpanJoins
open Go.RowKit Go.Proofs.YtpdhcgicnhgfoaaW.PrintWords Go.Proofs.YtpdhcgicnhgfoaaW.PrintLast Go.Proofs.YtpdhcgicnhgfoaaW.PrintMore
attribute [local go_sem] max2_int min2_int max_two min_two max_three min_three max_four min_four   -- for this text's walks alone
set_option linter.unusedVariables false
set_option linter.unusedSimpArgs false

attribute [local go_sem high] eqA36
/-! ### SJ: function 4 -/
mutual
def SJ.j0 : Nat → List (S36) → List Int → List Int → List Int → Bool → Int → List (S38) → Option (Bool)
 | 0, _, _, _, _, _, _, _ => none
 | k + 1, x11, x12, x14, x26, x134, x256000, x256001 => if x134 = true then (some false) else (SJ.l0 k x11 x12 x14 x26 x26 (x26.length : Int) 0 x256000 x256001)
def SJ.l0 : Nat → List (S36) → List Int → List Int → List Int → List Int → Int → Int → Int → List (S38) → Option (Bool)
 | 0, _, _, _, _, _, _, _, _, _ => none
 | k + 1, x11, x12, x14, x26, x135, x136, x137, x256000, x256001 => if x137 < x136 then (if 0 ≤ x137 then (if x137 < (x135.length : Int) then ((gosem_cut.f x12 x14 (rd x135 x137)).bind fun t268 => (if t268 = 0 then (some false) else (if x137 > 0 then (if 0 ≤ (wrap64 (x137 - 1)) then (if (wrap64 (x137 - 1)) < (x26.length : Int) then (if (rd x26 (wrap64 (x137 - 1))) ≥ (rd x135 x137) then (some false) else (SJ.l0 k x11 x12 x14 x26 x135 x136 (wrap64 (x137 + 1)) x256000 x256001)) else (none)) else (none)) else (SJ.l0 k x11 x12 x14 x26 x135 x136 (wrap64 (x137 + 1)) x256000 x256001)))) else (none)) else (none)) else ((span_Counts.f k x256000 x256001 x11).bind fun t270 => (if (t270.length : Int) = (x26.length : Int) then (SJ.l1 k x11 t270 0 ([] : List (S36)) x26 (x26.length : Int) 0 x256000 x256001) else (some false)))
def SJ.l1 : Nat → List (S36) → List Int → Int → List (S36) → List Int → Int → Int → Int → List (S38) → Option (Bool)
 | 0, _, _, _, _, _, _, _, _, _ => none
 | k + 1, x11, x29, x30, x31, x168, x169, x170, x256000, x256001 => if x170 < x169 then (if 0 ≤ x170 then (if x170 < (x168.length : Int) then (if x30 < (x11.length : Int) then (if 0 ≤ x30 then (SJ.j3 k x11 x29 x30 x31 x170 0 x168 x169 x170 (((rd_T36 x11 x30).f0) == (rd x168 x170)) x256000 x256001) else (none)) else (SJ.j3 k x11 x29 x30 x31 x170 0 x168 x169 x170 false x256000 x256001)) else (none)) else (none)) else ((span_Buckets.f k x256000 x256001 x29).bind fun t283 => (if (t283.length : Int) = (x31.length : Int) then (SJ.l2 k x31 t283 (x31.length : Int) 0 x256000 x256001) else (some false)))
def SJ.j3 : Nat → List (S36) → List Int → Int → List (S36) → Int → Int → List Int → Int → Int → Bool → Int → List (S38) → Option (Bool)
 | 0, _, _, _, _, _, _, _, _, _, _, _, _ => none
 | k + 1, x11, x29, x30, x31, x32, x34, x168, x169, x170, x187, x256000, x256001 => if x187 = true then (if 0 ≤ x30 then (if x30 < (x11.length : Int) then (if ((rd_T36 x11 x30).f1) > 0 then (if x31.length < 8796093022208 then (if 0 ≤ x32 then (if x32 < (x29.length : Int) then (if (rd x29 x32) = ((rd_T36 x11 x30).f1) then (SJ.l1 k x11 x29 (wrap64 (x30 + 1)) (x31 ++ [(⟨(rd_T36 x11 x30).f0, (rd_T36 x11 x30).f1⟩ : S36)]) x168 x169 (wrap64 (x170 + 1)) x256000 x256001) else (some false)) else (none)) else (none)) else (none)) else (if 0 ≤ x32 then (if x32 < (x29.length : Int) then (if (rd x29 x32) = ((rd_T36 x11 x30).f1) then (SJ.l1 k x11 x29 (wrap64 (x30 + 1)) x31 x168 x169 (wrap64 (x170 + 1)) x256000 x256001) else (some false)) else (none)) else (none))) else (none)) else (none)) else (if 0 ≤ x32 then (if x32 < (x29.length : Int) then (if (rd x29 x32) = x34 then (SJ.l1 k x11 x29 x30 x31 x168 x169 (wrap64 (x170 + 1)) x256000 x256001) else (some false)) else (none)) else (none))
def SJ.l2 : Nat → List (S36) → List (S36) → Int → Int → Int → List (S38) → Option (Bool)
 | 0, _, _, _, _, _, _ => none
 | k + 1, x31, x35, x220, x221, x256000, x256001 => if x221 < x220 then (if 0 ≤ x221 then (if x221 < (x35.length : Int) then (if x221 < (x31.length : Int) then (if (!(((rd_T36 x35 x221).f0) == ((rd_T36 x31 x221).f0)) || (!(((rd_T36 x35 x221).f1) == ((rd_T36 x31 x221).f1)))) = true then (some false) else (SJ.l2 k x31 x35 x220 (wrap64 (x221 + 1)) x256000 x256001)) else (none)) else (none)) else (none)) else ((pluviallaw06_awake.f k).bind fun t288 => (if t288 = true then ((span_Buckets.f k x256000 x256001 ([] : List Int)).bind fun t289 => (some ((t289.length : Int) == 0))) else (some false)))
end
def SJ.f (k : Nat) (a0 : Int) (a1 : Int) (a2 : Int) (a3 : Int) (a4 : Int) (a5 : Int) (a6 : Int) (a7 : Int) (a8 : Int) (a9 : Int) (a10 : Bool) (l11 : List (S36)) (l12 : List Int) (l13 : List (S36)) (l14 : List Int) (a15 : Int) (a16 : Int) (a17 : Int) (a18 : Int) (a19 : Int) (a20 : Bool) : Option (Bool) := (span_Of.f k l11).bind fun bt241 => ((span_Of.f k l13).bind fun bt245 => ((span_Join.f k bt241.1 bt241.2 bt245.1 bt245.2).bind fun bt251 => ((span_Indices.f k bt251.1 bt251.2).bind fun t256 => ((span_Has.f k bt241.1 bt241.2 bt245.1 bt245.2).bind fun t259 => (if (t259 != a20) = true then (SJ.j0 k l11 l12 l14 t256 true bt251.1 bt251.2) else (if (t256.length : Int) = a16 then ((span_Has.f k bt251.1 bt251.2 bt241.1 bt241.2).bind fun t260 => (if t260 = true then ((span_Has.f k bt251.1 bt251.2 bt245.1 bt245.2).bind fun t261 => (if t261 = true then ((span_Join.f k bt245.1 bt245.2 bt241.1 bt241.2).bind fun bt262 => ((span_Same.f k bt251.1 bt251.2 bt262.1 bt262.2).bind fun t266 => (SJ.j0 k l11 l12 l14 t256 (!t266) bt251.1 bt251.2))) else (SJ.j0 k l11 l12 l14 t256 true bt251.1 bt251.2))) else (SJ.j0 k l11 l12 l14 t256 true bt251.1 bt251.2))) else (SJ.j0 k l11 l12 l14 t256 true bt251.1 bt251.2)))))))
theorem SJ.mono_l : ∀ k, (∀ y0 y1 y2 y3 y4 y5 y6, LeO (SJ.j0 k y0 y1 y2 y3 y4 y5 y6) (SJ.j0 (k + 1) y0 y1 y2 y3 y4 y5 y6)) ∧ (∀ y0 y1 y2 y3 y4 y5 y6 y7 y8, LeO (SJ.l0 k y0 y1 y2 y3 y4 y5 y6 y7 y8) (SJ.l0 (k + 1) y0 y1 y2 y3 y4 y5 y6 y7 y8)) ∧ (∀ y0 y1 y2 y3 y4 y5 y6 y7 y8, LeO (SJ.l1 k y0 y1 y2 y3 y4 y5 y6 y7 y8) (SJ.l1 (k + 1) y0 y1 y2 y3 y4 y5 y6 y7 y8)) ∧ (∀ y0 y1 y2 y3 y4 y5 y6 y7 y8 y9 y10 y11, LeO (SJ.j3 k y0 y1 y2 y3 y4 y5 y6 y7 y8 y9 y10 y11) (SJ.j3 (k + 1) y0 y1 y2 y3 y4 y5 y6 y7 y8 y9 y10 y11)) ∧ (∀ y0 y1 y2 y3 y4 y5, LeO (SJ.l2 k y0 y1 y2 y3 y4 y5) (SJ.l2 (k + 1) y0 y1 y2 y3 y4 y5))
 | 0 => ⟨fun _ _ _ _ _ _ _ r h => by simp [SJ.j0] at h, fun _ _ _ _ _ _ _ _ _ r h => by simp [SJ.l0] at h, fun _ _ _ _ _ _ _ _ _ r h => by simp [SJ.l1] at h, fun _ _ _ _ _ _ _ _ _ _ _ _ r h => by simp [SJ.j3] at h, fun _ _ _ _ _ _ r h => by simp [SJ.l2] at h⟩
 | k + 1 => by
  obtain ⟨ih0, ih1, ih2, ih3, ih4⟩ := SJ.mono_l k
  refine ⟨?_, ?_, ?_, ?_, ?_⟩
  ·intro y0 y1 y2 y3 y4 y5 y6
   unfold SJ.j0
   repeat' first
   | (with_reducible exact ih0 _ _ _ _ _ _ _)
   | (with_reducible exact ih1 _ _ _ _ _ _ _ _ _)
   | (with_reducible exact ih2 _ _ _ _ _ _ _ _ _)
   | (with_reducible exact ih3 _ _ _ _ _ _ _ _ _ _ _ _)
   | (with_reducible exact ih4 _ _ _ _ _ _)
   | (with_reducible exact pluviallaw06_awake.mono _)
   | (with_reducible exact span_Buckets.mono _ _ _ _)
   | (with_reducible exact span_Counts.mono _ _ _ _)
   | (with_reducible exact span_Has.mono _ _ _ _ _)
   | (with_reducible exact span_Indices.mono _ _ _)
   | (with_reducible exact span_Join.mono _ _ _ _ _)
   | (with_reducible exact span_Of.mono _ _)
   | (with_reducible exact span_Same.mono _ _ _ _ _)
   | (with_reducible exact LeO.refl _)
   | (with_reducible exact LeO.none _)
   | (with_reducible refine LeO.ite ?_ ?_)
   | (with_reducible refine LeO.bind ?_ (fun _ => ?_))
   | exact ih0 _ _ _ _ _ _ _
   | exact ih1 _ _ _ _ _ _ _ _ _
   | exact ih2 _ _ _ _ _ _ _ _ _
   | exact ih3 _ _ _ _ _ _ _ _ _ _ _ _
   | exact ih4 _ _ _ _ _ _
   | exact pluviallaw06_awake.mono _
   | exact span_Buckets.mono _ _ _ _
   | exact span_Counts.mono _ _ _ _
   | exact span_Has.mono _ _ _ _ _
   | exact span_Indices.mono _ _ _
   | exact span_Join.mono _ _ _ _ _
   | exact span_Of.mono _ _
   | exact span_Same.mono _ _ _ _ _
   | exact LeO.none _
   | refine LeO.ite ?_ ?_
   | refine LeO.bind ?_ (fun _ => ?_)
  ·intro y0 y1 y2 y3 y4 y5 y6 y7 y8
   unfold SJ.l0
   repeat' first
   | (with_reducible exact ih0 _ _ _ _ _ _ _)
   | (with_reducible exact ih1 _ _ _ _ _ _ _ _ _)
   | (with_reducible exact ih2 _ _ _ _ _ _ _ _ _)
   | (with_reducible exact ih3 _ _ _ _ _ _ _ _ _ _ _ _)
   | (with_reducible exact ih4 _ _ _ _ _ _)
   | (with_reducible exact pluviallaw06_awake.mono _)
   | (with_reducible exact span_Buckets.mono _ _ _ _)
   | (with_reducible exact span_Counts.mono _ _ _ _)
   | (with_reducible exact span_Has.mono _ _ _ _ _)
   | (with_reducible exact span_Indices.mono _ _ _)
   | (with_reducible exact span_Join.mono _ _ _ _ _)
   | (with_reducible exact span_Of.mono _ _)
   | (with_reducible exact span_Same.mono _ _ _ _ _)
   | (with_reducible exact LeO.refl _)
   | (with_reducible exact LeO.none _)
   | (with_reducible refine LeO.ite ?_ ?_)
   | (with_reducible refine LeO.bind ?_ (fun _ => ?_))
   | exact ih0 _ _ _ _ _ _ _
   | exact ih1 _ _ _ _ _ _ _ _ _
   | exact ih2 _ _ _ _ _ _ _ _ _
   | exact ih3 _ _ _ _ _ _ _ _ _ _ _ _
   | exact ih4 _ _ _ _ _ _
   | exact pluviallaw06_awake.mono _
   | exact span_Buckets.mono _ _ _ _
   | exact span_Counts.mono _ _ _ _
   | exact span_Has.mono _ _ _ _ _
   | exact span_Indices.mono _ _ _
   | exact span_Join.mono _ _ _ _ _
   | exact span_Of.mono _ _
   | exact span_Same.mono _ _ _ _ _
   | exact LeO.none _
   | refine LeO.ite ?_ ?_
   | refine LeO.bind ?_ (fun _ => ?_)
  ·intro y0 y1 y2 y3 y4 y5 y6 y7 y8
   unfold SJ.l1
   repeat' first
   | (with_reducible exact ih0 _ _ _ _ _ _ _)
   | (with_reducible exact ih1 _ _ _ _ _ _ _ _ _)
   | (with_reducible exact ih2 _ _ _ _ _ _ _ _ _)
   | (with_reducible exact ih3 _ _ _ _ _ _ _ _ _ _ _ _)
   | (with_reducible exact ih4 _ _ _ _ _ _)
   | (with_reducible exact pluviallaw06_awake.mono _)
   | (with_reducible exact span_Buckets.mono _ _ _ _)
   | (with_reducible exact span_Counts.mono _ _ _ _)
   | (with_reducible exact span_Has.mono _ _ _ _ _)
   | (with_reducible exact span_Indices.mono _ _ _)
   | (with_reducible exact span_Join.mono _ _ _ _ _)
   | (with_reducible exact span_Of.mono _ _)
   | (with_reducible exact span_Same.mono _ _ _ _ _)
   | (with_reducible exact LeO.refl _)
   | (with_reducible exact LeO.none _)
   | (with_reducible refine LeO.ite ?_ ?_)
   | (with_reducible refine LeO.bind ?_ (fun _ => ?_))
   | exact ih0 _ _ _ _ _ _ _
   | exact ih1 _ _ _ _ _ _ _ _ _
   | exact ih2 _ _ _ _ _ _ _ _ _
   | exact ih3 _ _ _ _ _ _ _ _ _ _ _ _
   | exact ih4 _ _ _ _ _ _
   | exact pluviallaw06_awake.mono _
   | exact span_Buckets.mono _ _ _ _
   | exact span_Counts.mono _ _ _ _
   | exact span_Has.mono _ _ _ _ _
   | exact span_Indices.mono _ _ _
   | exact span_Join.mono _ _ _ _ _
   | exact span_Of.mono _ _
   | exact span_Same.mono _ _ _ _ _
   | exact LeO.none _
   | refine LeO.ite ?_ ?_
   | refine LeO.bind ?_ (fun _ => ?_)
  ·intro y0 y1 y2 y3 y4 y5 y6 y7 y8 y9 y10 y11
   unfold SJ.j3
   repeat' first
   | (with_reducible exact ih0 _ _ _ _ _ _ _)
   | (with_reducible exact ih1 _ _ _ _ _ _ _ _ _)
   | (with_reducible exact ih2 _ _ _ _ _ _ _ _ _)
   | (with_reducible exact ih3 _ _ _ _ _ _ _ _ _ _ _ _)
   | (with_reducible exact ih4 _ _ _ _ _ _)
   | (with_reducible exact pluviallaw06_awake.mono _)
   | (with_reducible exact span_Buckets.mono _ _ _ _)
   | (with_reducible exact span_Counts.mono _ _ _ _)
   | (with_reducible exact span_Has.mono _ _ _ _ _)
   | (with_reducible exact span_Indices.mono _ _ _)
   | (with_reducible exact span_Join.mono _ _ _ _ _)
   | (with_reducible exact span_Of.mono _ _)
   | (with_reducible exact span_Same.mono _ _ _ _ _)
   | (with_reducible exact LeO.refl _)
   | (with_reducible exact LeO.none _)
   | (with_reducible refine LeO.ite ?_ ?_)
   | (with_reducible refine LeO.bind ?_ (fun _ => ?_))
   | exact ih0 _ _ _ _ _ _ _
   | exact ih1 _ _ _ _ _ _ _ _ _
   | exact ih2 _ _ _ _ _ _ _ _ _
   | exact ih3 _ _ _ _ _ _ _ _ _ _ _ _
   | exact ih4 _ _ _ _ _ _
   | exact pluviallaw06_awake.mono _
   | exact span_Buckets.mono _ _ _ _
   | exact span_Counts.mono _ _ _ _
   | exact span_Has.mono _ _ _ _ _
   | exact span_Indices.mono _ _ _
   | exact span_Join.mono _ _ _ _ _
   | exact span_Of.mono _ _
   | exact span_Same.mono _ _ _ _ _
   | exact LeO.none _
   | refine LeO.ite ?_ ?_
   | refine LeO.bind ?_ (fun _ => ?_)
  ·intro y0 y1 y2 y3 y4 y5
   unfold SJ.l2
   repeat' first
   | (with_reducible exact ih0 _ _ _ _ _ _ _)
   | (with_reducible exact ih1 _ _ _ _ _ _ _ _ _)
   | (with_reducible exact ih2 _ _ _ _ _ _ _ _ _)
   | (with_reducible exact ih3 _ _ _ _ _ _ _ _ _ _ _ _)
   | (with_reducible exact ih4 _ _ _ _ _ _)
   | (with_reducible exact pluviallaw06_awake.mono _)
   | (with_reducible exact span_Buckets.mono _ _ _ _)
   | (with_reducible exact span_Counts.mono _ _ _ _)
   | (with_reducible exact span_Has.mono _ _ _ _ _)
   | (with_reducible exact span_Indices.mono _ _ _)
   | (with_reducible exact span_Join.mono _ _ _ _ _)
   | (with_reducible exact span_Of.mono _ _)
   | (with_reducible exact span_Same.mono _ _ _ _ _)
   | (with_reducible exact LeO.refl _)
   | (with_reducible exact LeO.none _)
   | (with_reducible refine LeO.ite ?_ ?_)
   | (with_reducible refine LeO.bind ?_ (fun _ => ?_))
   | exact ih0 _ _ _ _ _ _ _
   | exact ih1 _ _ _ _ _ _ _ _ _
   | exact ih2 _ _ _ _ _ _ _ _ _
   | exact ih3 _ _ _ _ _ _ _ _ _ _ _ _
   | exact ih4 _ _ _ _ _ _
   | exact pluviallaw06_awake.mono _
   | exact span_Buckets.mono _ _ _ _
   | exact span_Counts.mono _ _ _ _
   | exact span_Has.mono _ _ _ _ _
   | exact span_Indices.mono _ _ _
   | exact span_Join.mono _ _ _ _ _
   | exact span_Of.mono _ _
   | exact span_Same.mono _ _ _ _ _
   | exact LeO.none _
   | refine LeO.ite ?_ ?_
   | refine LeO.bind ?_ (fun _ => ?_)
theorem SJ.mono : ∀ a0 a1 a2 a3 a4 a5 a6 a7 a8 a9 a10 a11 a12 a13 a14 a15 a16 a17 a18 a19 a20 k, LeO (SJ.f k a0 a1 a2 a3 a4 a5 a6 a7 a8 a9 a10 a11 a12 a13 a14 a15 a16 a17 a18 a19 a20) (SJ.f (k + 1) a0 a1 a2 a3 a4 a5 a6 a7 a8 a9 a10 a11 a12 a13 a14 a15 a16 a17 a18 a19 a20) := by
 intro a0 a1 a2 a3 a4 a5 a6 a7 a8 a9 a10 a11 a12 a13 a14 a15 a16 a17 a18 a19 a20 k
 obtain ⟨ih0, ih1, ih2, ih3, ih4⟩ := SJ.mono_l k
 unfold SJ.f
 repeat' first
   | (with_reducible exact ih0 _ _ _ _ _ _ _)
   | (with_reducible exact ih1 _ _ _ _ _ _ _ _ _)
   | (with_reducible exact ih2 _ _ _ _ _ _ _ _ _)
   | (with_reducible exact ih3 _ _ _ _ _ _ _ _ _ _ _ _)
   | (with_reducible exact ih4 _ _ _ _ _ _)
   | (with_reducible exact pluviallaw06_awake.mono _)
   | (with_reducible exact span_Buckets.mono _ _ _ _)
   | (with_reducible exact span_Counts.mono _ _ _ _)
   | (with_reducible exact span_Has.mono _ _ _ _ _)
   | (with_reducible exact span_Indices.mono _ _ _)
   | (with_reducible exact span_Join.mono _ _ _ _ _)
   | (with_reducible exact span_Of.mono _ _)
   | (with_reducible exact span_Same.mono _ _ _ _ _)
   | (with_reducible exact LeO.refl _)
   | (with_reducible exact LeO.none _)
   | (with_reducible refine LeO.ite ?_ ?_)
   | (with_reducible refine LeO.bind ?_ (fun _ => ?_))
   | exact ih0 _ _ _ _ _ _ _
   | exact ih1 _ _ _ _ _ _ _ _ _
   | exact ih2 _ _ _ _ _ _ _ _ _
   | exact ih3 _ _ _ _ _ _ _ _ _ _ _ _
   | exact ih4 _ _ _ _ _ _
   | exact pluviallaw06_awake.mono _
   | exact span_Buckets.mono _ _ _ _
   | exact span_Counts.mono _ _ _ _
   | exact span_Has.mono _ _ _ _ _
   | exact span_Indices.mono _ _ _
   | exact span_Join.mono _ _ _ _ _
   | exact span_Of.mono _ _
   | exact span_Same.mono _ _ _ _ _
   | exact LeO.none _
   | refine LeO.ite ?_ ?_
   | refine LeO.bind ?_ (fun _ => ?_)
def SJ.T24 : Bool × List (List Nat × List Nat) := (true, [([], []), ([], []), ([0, 1], [0, 1]), ([], []), ([2, 3], [2, 3]), ([4, 2], [4]), ([5], [5]), ([6, 5], [5, 6]), ([5], [5]), ([8, 5, 5], [5, 8]), ([7, 9, 5], [5, 7, 9]), ([5, 10], [5, 10]), ([11, 9], [11]), ([12], [12]), ([12], [12]), ([13, 14, 12, 12], [12, 13, 14]), ([15, 12], [12, 15]), ([12, 16], [12, 16]), ([17, 15], [17]), ([18], [18]), ([18], [18]), ([19, 20, 18, 18], [18, 19, 20]), ([21, 18], [18, 21]), ([18, 22], [18, 22]), ([23, 21], [23]), ([24], [24]), ([24], [24]), ([24], [24]), ([26, 27, 24, 24], [24, 26, 27]), ([25, 28, 28, 24], [24, 25, 28]), ([29, 24], [24, 29]), ([24, 30], [24, 30])])
def SJ.B24 : List Nat := [0, 0, 3, 0, 15, 31, 63, 127, 63, 319, 1023, 2047, 4095, 8191, 8191, 32767, 65535, 131071, 262143, 524287, 524287, 2097151, 4194303, 8388607, 16777215, 33554431, 33554431, 33554431, 234881023, 536870911, 1073741823, 2147483647]
theorem SJ.tab24 : rtab .any (opsOf Try.f4 24) = SJ.T24 := by kernel_rfl
theorem SJ.bits24 : waitsOk SJ.T24.2 SJ.B24 = true := by kernel_rfl
def SJ.T55 : Bool × List (List Nat × List Nat) := (true, [([], []), ([], []), ([0, 1], [0, 1]), ([2], [2]), ([], []), ([], []), ([4, 5], [4, 5]), ([6], [6]), ([3, 7], [3, 7])])
def SJ.B55 : List Nat := [0, 0, 3, 7, 0, 0, 48, 112, 255]
theorem SJ.tab55 : rtab .any (opsOf Try.f4 55) = SJ.T55 := by kernel_rfl
theorem SJ.bits55 : waitsOk SJ.T55.2 SJ.B55 = true := by kernel_rfl
end Go.Proofs.Ytpdhcgicnhgfoaa.QSpanJoins
