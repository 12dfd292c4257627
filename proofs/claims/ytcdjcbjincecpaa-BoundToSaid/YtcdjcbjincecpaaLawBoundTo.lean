/- The statement BoundToSaid: for every input the law BoundTo returns true, and its arguments read as they read before. No condition. -/
import Derived.Test.YtcdjcbjincecpaaRows
import Derived.Test.YtcdjcbjincecpaaQBoundTox5
import Derived.Test.YtcdjcbjincecpaaPureBoundTo
import Derived.WalkKit
import Derived.ProofKit
import Derived.OpenShut
import Derived.ShutString
import Derived.ChangeOld
import Derived.Below
import Derived.SizedLaws
import Derived.Lib.SmallJoins
namespace Go.Proofs.Ytcdjcbjincecpaa.boundTo
open Go.ChangeShapes Go.WideShapes Go.ChangeAt Go.RowKit Go.Joins
open Go.ChangeMaps (open_string shut_string)
set_option linter.unusedVariables false
theorem own : ownKnob Try.prog.godebug = none := by kernel_rfl
theorem cells32 : Try.prog.cellsOf 32 = 3 := by kernel_rfl
theorem walk (a0 a1 a2 s0 s1 s2 t0 t1 t2 : Int) (w : World) (w0 : (Lit.int .i64 a0).wf = true) :
    Calls Try.prog 4 #[.int .i64 a0, .int .i64 a1, .int .i64 a2, .agg #[.int .i64 s0, .int .i64 s1, .int .i64 s2], .agg #[.int .i64 t0, .int .i64 t1, .int .i64 t2]] w fun e w' => e = .returned (.bool true) ∧ Below w.heap.size w w' :=
  QBoundTo.pluviallaw04_BoundTo.calls 33 a0 a1 a2 s0 s1 s2 t0 t1 t2 true w (Pure.LBoundTo.all_true a0 a1 a2 s0 s1 s2 t0 t1 t2 (Mth.wf_i64 w0))
set_option maxRecDepth 100000 in
theorem lifted (os : Os) (started : os.Started) (H : Type) (enc : TypeId × Value → H) :
    ReturnsInHanded {} Try.checked os 4 .any (Rows.boundToSpec.pre6 enc Try.prog Try.f4 Rows.boundToRow.domain false) (Rows.boundToSpec.post enc Try.prog Try.f4 false true false false) := by
  refine returnsInHanded_of_change_sized (C := Try.checked) own started (by kernel_rfl) Try.func4
    (ChangeSpec.witness6 (enc := enc) (C := Try.checked) false ⟨#[], #[.int .i64 0, .int .i64 0, .int .i64 0, .agg #[.int .i64 0, .int .i64 0, .int .i64 0], .agg #[.int .i64 0, .int .i64 0, .int .i64 0]], []⟩ 8 (by kernel_rfl) (by kernel_rfl) (by kernel_rfl) (by kernel_rfl)) ?_
  intro W base args ds gs before hval0 hW hcnd hsz0 _
  have hval : ∀ (j : Nat) t v, Try.f4.params[j]? = some t → args[j]? = some v → Value.okWide Try.prog W .any base t v := hval0
  have hW' := hW
  obtain ⟨p, q, hA0, hV, rfl, hfz, hnd⟩ := hW
  have hA : DataW.TrodAll enc Try.prog W 0 (fun _ => true) true Try.f4.params.toList args.toList ds p := hA0
  rw [Try.params4] at hA hval
  obtain ⟨v0, vs0, d0, ds0, p0, q0, hargs, rfl, rfl, h0, r0⟩ := trodAll_cons hA
  obtain ⟨v1, vs1, d1, ds1, p1, q1, rfl, rfl, rfl, h1, r1⟩ := trodAll_cons r0
  obtain ⟨v2, vs2, d2, ds2, p2, q2, rfl, rfl, rfl, h2, r2⟩ := trodAll_cons r1
  obtain ⟨v3, vs3, d3, ds3, p3, q3, rfl, rfl, rfl, h3, r3⟩ := trodAll_cons r2
  obtain ⟨v4, vs4, d4, ds4, p4, q4, rfl, rfl, rfl, h4, r4⟩ := trodAll_cons r3
  obtain ⟨rfl, rfl, rfl⟩ := trodAll_nil r4
  obtain rfl : args = #[v0, v1, v2, v3, v4] := by cases args; simp_all
  obtain ⟨rfl, rfl⟩ := trodVars_none hV
  obtain ⟨a0, rfl, rfl, rfl, w0⟩ := open_int Try.underlying3 (hval 0 3 v0 rfl rfl) h0
  obtain ⟨a1, rfl, rfl, rfl, w1⟩ := open_int Try.underlying3 (hval 1 3 v1 rfl rfl) h1
  obtain ⟨a2, rfl, rfl, rfl, w2⟩ := open_int Try.underlying3 (hval 2 3 v2 rfl rfl) h2
  obtain ⟨c0, c1, c2, y0, y1, y2, m3, rfl, rfl, rfl, hy0, hy1, hy2⟩ := open_agg3 Try.underlying32 (by kernel_rfl) cells32 (hval 3 32 v3 rfl rfl) h3
  obtain ⟨s0, e0, rfl, ws0⟩ := DataW.trod_int Try.underlying3 hy0
  obtain ⟨s1, e1, rfl, ws1⟩ := DataW.trod_int Try.underlying3 hy1
  obtain ⟨s2, e2, rfl, ws2⟩ := DataW.trod_int Try.underlying3 hy2
  simp at e0 e1 e2
  subst e0 e1 e2
  obtain ⟨c0, c1, c2, y0, y1, y2, m4, rfl, rfl, rfl, hz0, hz1, hz2⟩ := open_agg3 Try.underlying32 (by kernel_rfl) cells32 (hval 4 32 v4 rfl rfl) h4
  obtain ⟨t0, e0, rfl, wt0⟩ := DataW.trod_int Try.underlying3 hz0
  obtain ⟨t1, e1, rfl, wt1⟩ := DataW.trod_int Try.underlying3 hz1
  obtain ⟨t2, e2, rfl, wt2⟩ := DataW.trod_int Try.underlying3 hz2
  simp at e0 e1 e2
  subst e0 e1 e2
  clear hA0 hval0 hsz0
  have key : ∀ (sp : Nat → Bool) (W' : World) (x y z : Int), (Lit.int .i64 x).wf = true → (Lit.int .i64 y).wf = true → (Lit.int .i64 z).wf = true →
      DataW.Trod enc Try.prog W' 0 sp true 32 (.agg #[.int .i64 x, .int .i64 y, .int .i64 z]) (.agg [.lit (.int .i64 x), .lit (.int .i64 y), .lit (.int .i64 z)]) [] := by
    intro sp W' x y z hx hy hz
    exact shut_agg3 (y0 := (.lit (.int .i64 x), [])) (y1 := (.lit (.int .i64 y), [])) (y2 := (.lit (.int .i64 z), [])) Try.underlying32 (by kernel_rfl) cells32 (field_of_Trod (shut_int Try.underlying3 hx) rfl) (field_of_Trod (shut_int Try.underlying3 hy) rfl) (field_of_Trod (shut_int Try.underlying3 hz) rfl)
  refine (walk a0 a1 a2 s0 s1 s2 t0 t1 t2 W w0).mono fun e W' ⟨he, bel⟩ => ?_
  subst he
  exact ⟨_, rfl, _, _, _, [], _, [], hW', trodAll_mk1 (shut_bool Try.underlying4 _), (trodAll_cons_mk (shut_int Try.underlying3 w0) (trodAll_cons_mk (shut_int Try.underlying3 w1) (trodAll_cons_mk (shut_int Try.underlying3 w2) (trodAll_cons_mk (key _ W' s0 s1 s2 ws0 ws1 ws2) (trodAll_cons_mk (key _ W' t0 t1 t2 wt0 wt1 wt2) trodAll_mk0))))), rfl, bel.frame _, fun h => by cases h⟩
theorem over : Rows.boundToRow.holds Try.pinned (OpenSpec.ofChange Rows.boundToSpec) :=
  OpenClaim.holds_of_wide 4 Try.f4 rfl rfl rfl rfl rfl rfl rfl ⟨rfl, rfl, rfl, rfl, rfl⟩ rfl rfl rfl rfl rfl (by kernel_rfl) Try.func4 (by kernel_rfl)
    (of_decide_eq_true (by kernel_rfl)) (by unfold Func.isWrapper; first | (rw [if_pos (by decide +kernel)]; kernel_rfl) | (rw [if_neg (by decide +kernel)]; exact ⟨rfl, rfl⟩))
    (fun os started H enc _ => lifted os started H enc)
theorem proved : Rows.BoundToSaid := over
#print axioms proved
end Go.Proofs.Ytcdjcbjincecpaa.boundTo
namespace Go.Proofs.Ytcdjcbjincecpaa
/-- The row, under a short name, for the claim. -/
theorem boundTo_holds : Rows.BoundToSaid := boundTo.proved
end Go.Proofs.Ytcdjcbjincecpaa
