-- Written by a program of the session (wip/xprint.sh, wip/xpatch.py; a variant of the print) out of the translation. Lean checks it.
import Derived.Test.YtmklgjcflgjbjaaRows
import Derived.Test.YtmklgjcflgjbjaaQSumSealsx3
import Derived.Test.YtmklgjcflgjbjaaPureSumSeals
import Derived.WalkKit
import Derived.ProofKit
import Derived.OpenShut
import Derived.ShutString
import Derived.ChangeOld
import Derived.Below
import Derived.SizedLaws
import Derived.Deep.Slices
import Derived.Test.YtmklgjcflgjbjaaWSized
namespace Go.Proofs.Ytmklgjcflgjbjaa.sumSeals
open Go.ChangeShapes Go.WideShapes Go.ChangeAt Go.RowKit
open Go.ChangeMaps (open_string shut_string)
set_option linter.unusedVariables false
theorem own : ownKnob Try.prog.godebug = none := by kernel_rfl
theorem laidOut : laidOutB Try.prog = true := by kernel_rfl
open Go.Proofs.YtmklgjcflgjbjaaW.PrintWords in
/-- a list of byte lists, opened -/
theorem opened {H : Type} {enc : TypeId × Value → H} {W : World} {a0 : Option Addr} {len0 cap0 : Nat} {d : DataW H} {p : List MemPlace} (h0 : DataW.Trod enc Try.prog W 0 (fun _ => true) true 22 (.slice a0 len0 cap0) d p) :
    ∃ l : List (List Int), len0 = l.length ∧ (Kd.slice 5 (Kd.int .u8)).C W a0 l.length l ∧ l.length ≤ cap0 ∧ l.length ≤ maxLen ∧ ∀ x ∈ l, ∀ y ∈ x, (Lit.int .u8 y).wf = true := by
  obtain ⟨fuel, hf⟩ := h0
  rcases Go.Deep.open_slice1 Try.underlying22 (by kernel_rfl) hf with ⟨hcs, _⟩ | ⟨x, l, c, m, n, V, D, Pl, hcs, _, hl, hm, hmm, _, hx⟩
  · simp [Value.cells] at hcs
    obtain ⟨rfl, rfl, rfl⟩ := hcs
    exact ⟨[], rfl, Kd.C_nil _ _, Nat.le_refl _, Nat.zero_le _, by simp⟩
  · simp [Value.cells] at hcs
    obtain ⟨rfl, rfl, rfl⟩ := hcs
    simp only [if_true] at hmm
    subst hmm
    have each : ∀ i, i < m → ∃ li : List Int, (∃ Ai ci, W.cell? (x.add i) = some (.slice Ai li.length ci) ∧ li.length ≤ ci ∧ (Kd.int .u8).C W Ai li.length li) ∧ ∀ y ∈ li, (Lit.int .u8 y).wf = true := by
      intro i hi
      obtain ⟨g1, g2⟩ := hx i hi
      rcases open_ints Try.underlying24 Try.underlying5 (by kernel_rfl) g2 with ⟨hcs, _⟩ | ⟨y, ly, cy, zs, hcs, _, hl2, hm2, hz, _, hcell, hwz⟩
      · have hv : V i = .slice none 0 0 := by simpa using hcs
        exact ⟨[], ⟨none, 0, by rw [g1, hv]; rfl, Nat.le_refl _, Kd.C_nil _ _⟩, by simp⟩
      · have hv : V i = .slice (some y) ly cy := by simpa using hcs
        obtain ⟨li, rfl, hr, _, hw, hc⟩ := ReadsInt.ofRowC (k := .u8) (w := W) (a := some y) (len := ly) (cap := cy) (zs := zs) (.inr ⟨y, rfl, hl2, hm2, by simpa using hz, hcell, hwz⟩)
        exact ⟨li, ⟨some y, cy, by rw [g1, hv], hc, Kd.C_of_reads (d := (0 : Int)) (h1 := fun _ => rfl) hr⟩, hw⟩
    obtain ⟨L, hL⟩ := Go.Deep.choose_lt each
    refine ⟨(List.range len0).map L, by simp, ⟨rfl, ?_, fun _ => ⟨x, rfl, ?_⟩⟩, by simpa using hl, ?_, ?_⟩
    · rw [List.length_map, List.length_range]
      have : maxLen ≤ 9223372036854775807 := by decide
      omega
    · intro j q hj
      rw [List.getElem?_map] at hj
      obtain ⟨j', hj', rfl⟩ := Option.map_eq_some_iff.1 hj
      rw [List.getElem?_eq_some_iff] at hj'
      obtain ⟨h1, h2⟩ := hj'
      rw [List.getElem_range] at h2
      subst h2
      have hlt : j < len0 := by simpa using h1
      obtain ⟨⟨Ai, ci, e1, e2, e3⟩, _⟩ := hL j (by omega)
      refine ⟨[.slice Ai (L j).length ci], rfl, ⟨Ai, ci, rfl, e2, e3⟩, ?_⟩
      intro i u hu
      cases i with
      | zero =>
        have : u = .slice Ai (L j).length ci := by simpa using hu.symm
        subst this
        show W.cell? (x.add (j * 1 + 0)) = _
        rw [Nat.mul_one, Nat.add_zero]
        exact e1
      | succ i => simp at hu
    · rw [List.length_map, List.length_range]; omega
    · intro q hq
      obtain ⟨j, hj, rfl⟩ := List.mem_map.1 hq
      exact (hL j (by have := List.mem_range.1 hj; omega)).2
set_option maxRecDepth 100000 in
theorem lifted (os : Os) (started : os.Started) (H : Type) (enc : TypeId × Value → H) :
    ReturnsInHanded {} Try.checked os 7 .any (Rows.sumSealsSpec.pre6 enc Try.prog Try.f7 Rows.sumSealsRow.domain false) (Rows.sumSealsSpec.post enc Try.prog Try.f7 false true false false) := by
  refine returnsInHanded_of_change_sized (C := Try.checked) own started (by kernel_rfl) Try.func7
    (ChangeSpec.witness6 (enc := enc) (C := Try.checked) false ⟨#[], #[.slice none 0 0, .int .u16 0, .int .u16 0, .int .u8 0], []⟩ 8 (by kernel_rfl) (by kernel_rfl) (by kernel_rfl) (by kernel_rfl)) ?_
  intro W base args ds gs before hval0 hW hcnd hsz0 _
  have hsz : (DataW.weightsEach Try.prog (Try.f7.params.toList ++ Rows.sumSealsSpec.plain.varTypes Try.prog) (ds ++ gs)).all (· ≤ reachBytes) = true := hsz0
  have hval : ∀ (j : Nat) t v, Try.f7.params[j]? = some t → args[j]? = some v → Value.okWide Try.prog W .any base t v := hval0
  have hW' := hW
  obtain ⟨p, q, hA0, hV, rfl, hfz, hnd⟩ := hW
  have hA : DataW.TrodAll enc Try.prog W 0 (fun _ => true) true Try.f7.params.toList args.toList ds p := hA0
  rw [Try.params7] at hA hval hsz
  obtain ⟨v0, vs0, d0, ds0, p0, q0, hargs, rfl, rfl, h0, r0⟩ := trodAll_cons hA
  obtain ⟨v1, vs1, d1, ds1, p1, q1, rfl, rfl, rfl, h1, r1⟩ := trodAll_cons r0
  obtain ⟨v2, vs2, d2, ds2, p2, q2, rfl, rfl, rfl, h2, r2⟩ := trodAll_cons r1
  obtain ⟨v3, vs3, d3, ds3, p3, q3, rfl, rfl, rfl, h3, r3⟩ := trodAll_cons r2
  obtain ⟨rfl, rfl, rfl⟩ := trodAll_nil r3
  obtain rfl : args = #[v0, v1, v2, v3] := by cases args; simp_all
  obtain ⟨rfl, rfl⟩ := trodVars_none hV
  obtain ⟨a0, len0, cap0, rfl⟩ := okWide_slice Try.underlying22 (hval 0 22 v0 rfl rfl)
  have k0 := h0
  have lt0 : ∀ x ∈ p0, x.block < W.heap.size := by obtain ⟨m, hm⟩ := k0; exact DataW.trod_lt m _ _ _ hm
  obtain ⟨l0, rfl, hC0, hc0, hm0, hB0⟩ := opened h0
  obtain ⟨a1, rfl, rfl, rfl, w1⟩ := open_int Try.underlying23 (hval 1 23 v1 rfl rfl) h1
  obtain ⟨a2, rfl, rfl, rfl, w2⟩ := open_int Try.underlying23 (hval 2 23 v2 rfl rfl) h2
  obtain ⟨a3, rfl, rfl, rfl, w3⟩ := open_int Try.underlying5 (hval 3 5 v3 rfl rfl) h3
  clear hA0 hval0 hsz0 hsz
  have hmax : maxLen ≤ 9223372036854775807 := by decide
  obtain ⟨k, hk⟩ := Pure.LSumSeals.main l0 a1 a2 a3 (fun x hx y hy => Mth.wf_u8 (hB0 x hx y hy)) (Nat.le_trans hm0 hmax) (Mth.wf_u16 w1) (Mth.wf_u16 w2) (Mth.wf_u8 w3)
  refine (QSumSeals.pluviallaw03_SumSeals.calls k _ _ l0 a1 a2 a3 true ⟨rfl⟩ W hC0 hc0 hk).mono fun e W' ⟨he, bel⟩ => ?_
  subst he
  exact ⟨_, rfl, _, _, _, [], _, [], hW', trodAll_mk1 (shut_bool Try.underlying4 _), (trodAll_cons_mk (Below.trod laidOut (by kernel_rfl) (of_decide_eq_true (by kernel_rfl)) k0 bel lt0) (trodAll_cons_mk (shut_int Try.underlying23 w1) (trodAll_cons_mk (shut_int Try.underlying23 w2) (trodAll_cons_mk (shut_int Try.underlying5 w3) trodAll_mk0)))), rfl, bel.frame _, fun h => by cases h⟩
theorem over : Rows.sumSealsRow.holds Try.pinned (OpenSpec.ofChange Rows.sumSealsSpec) :=
  OpenClaim.holds_of_wide 7 Try.f7 rfl rfl rfl rfl rfl rfl rfl ⟨rfl, rfl, rfl, rfl, rfl⟩ rfl rfl rfl rfl rfl (by kernel_rfl) Try.func7 (by kernel_rfl)
    (of_decide_eq_true (by kernel_rfl)) (by unfold Func.isWrapper; first | (rw [if_pos (by decide +kernel)]; kernel_rfl) | (rw [if_neg (by decide +kernel)]; exact ⟨rfl, rfl⟩))
    (fun os started H enc _ => lifted os started H enc)
theorem proved : Rows.SumSealsSaid := over
#print axioms proved
end Go.Proofs.Ytmklgjcflgjbjaa.sumSeals
namespace Go.Proofs.Ytmklgjcflgjbjaa
/-- The row, under a short name, for the claim. -/
theorem sumSeals_holds : Rows.SumSealsSaid := sumSeals.proved
end Go.Proofs.Ytmklgjcflgjbjaa
