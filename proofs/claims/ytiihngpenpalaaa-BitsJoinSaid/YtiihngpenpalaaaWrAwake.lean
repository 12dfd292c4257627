/- The contract of the statements' awake: it answers true; no condition. -/
import Derived.Test.YtiihngpenpalaaaWrCount
namespace Go.Proofs.Ytiihngpenpalaaa.Wr
open Go.RowKit Go.Proofs.Ytiihngpenpalaaa Go.Proofs.Ytiihngpenpalaaa.PBitsJoin Go.Proofs.YtiihngpenpalaaaW.PrintWords Go.Proofs.YtiihngpenpalaaaW.PrintLast Go.Proofs.YtiihngpenpalaaaW.PrintMore Bt Mth
theorem Is.new (w0 W : World) (hB : Below w0.heap.size w0 W) : Is w0 (W.alloc (.cells #[.slice none 0 0, .int .u64 0] 27)) W.heap.size (.slice none 0 0) [] :=
  ⟨[], 0, by unfold Blk; simpa using heap_alloc_new W _, hB.size, Kd.R_nil _ _ _ _ _, pk_nil⟩
theorem awake_bits : encC 0 ++ encC 5 = [false, true, false, true, false, true] := by decide +kernel
theorem awake_bytes {xs : List Int} {f : Int} (h : Pk xs f [false, true, false, true, false, true]) : xs = [84] := by
  have hl := pk_len h
  obtain ⟨h1, h2, h3, h4⟩ := h
  simp only [List.length_cons, List.length_nil] at hl
  have hf : f = 2 := by omega
  subst hf
  exact bitsOf_inj h1 (by intro x hx; rw [List.mem_singleton] at hx; subst hx; decide) (h4.trans (by decide +kernel))
set_option maxHeartbeats 4000000 in
set_option maxRecDepth 100000 in
theorem awake_calls (w : World) : Calls Try.prog 5 #[] w fun e w' => e = .returned (.bool true) ∧ Below w.heap.size w w' := by
  have HI := Aside0.mk (Is.new w w (Below.refl _ _))
  have HB := Aside0.mk ((Below.refl w.heap.size w).alloc (Nat.le_refl _) (.cells #[.slice none 0 0, .int .u64 0] 27))
  go_enter Try.func5, Try.ntmps5
  go_upto_region 5 with (first | (go_at_call 6; (with_reducible refine (count_calls w _ _ _ [] 0 HI.out HB.out (by decide) (by decide)).mono ?_); rintro e w2 ⟨rfl, hw⟩; obtain ⟨v2, hI2, hB2, _, _⟩ := hw; have HI2 := Aside0.mk hI2; have HB2 := Aside0.mk hB2; clear hI2 hB2) | (go_at_call 6; (with_reducible refine (count_calls w _ _ v2 _ 5 HI2.out HB2.out (by decide) (by decide)).mono ?_); rintro e w3 ⟨rfl, hw⟩; obtain ⟨v3, hI3, hB3, _, _⟩ := hw; rw [List.nil_append, awake_bits] at hI3; have HI3 := Aside0.mk hI3; have HB3 := Aside0.mk hB3; clear hI3 hB3) | (go_at_call 9; (with_reducible refine (bytes_calls w _ _ v3 _ HI3.out (by decide)).mono ?_); rintro e w4 ⟨u, xs, f, rfl, ho, hp, hb⟩; obtain rfl := awake_bytes hp; obtain ⟨q, c, hu, _, _, _⟩ := Kd.R_form ho (by decide); rw [show [(84 : Int)].length = 1 from rfl] at hu; subst hu; have hx : w4.cell? ⟨q, 0, none⟩ = some (.int .u8 84) := (Kd.R_celln 0 ho 0 (by decide) (by decide)).1; have HI4 := Aside0.mk (HI3.out.below hb); have HB4 := Aside0.mk (HB3.out.trans (hb.mono HB3.out.size)); clear ho hp hb))
  have HLN : Aside0 (Calls Try.prog 7 #[.pointer (some ⟨w.heap.size, 0, none⟩)] w4 fun e w' => e = .returned (.int .i64 6) ∧ ∃ n, w' = w4.drewN n) := ⟨len_calls w w4 _ v3 _ HI4.out (by decide)⟩
  go_wp2_with (go_at_call 7; (with_reducible refine HLN.out.mono ?_); rintro e w5 ⟨rfl, n5, rfl⟩)
  go_ret
  exact ⟨rfl, pw_below_drewN HB4.out _⟩
end Go.Proofs.Ytiihngpenpalaaa.Wr
