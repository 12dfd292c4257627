/- The contract of (*bits.Writer).Count: a count behind what was laid. Conditions: a whole number of 64 bits, fewer than 2^19 bits so far. -/
import Derived.Test.YtiihngpenpalaaaWrPut
import Derived.Test.YtiihngpenpalaaaRd
namespace Go.Proofs.Ytiihngpenpalaaa.Wr
open Go.RowKit Go.Proofs.Ytiihngpenpalaaa Go.Proofs.Ytiihngpenpalaaa.PBitsJoin Go.Proofs.YtiihngpenpalaaaW.PrintWords Go.Proofs.YtiihngpenpalaaaW.PrintLast Go.Proofs.YtiihngpenpalaaaW.PrintMore Bt Mth
theorem Is.below {w0 w w1 : World} {g : Nat} {v : Value} {s : List Bool} (h : Is w0 w g v s) (hb : Below w.heap.size w w1) : Is w0 w1 g v s := by
  obtain ⟨xs, f, h1, h2, h3, h4⟩ := h
  exact ⟨xs, f, (hb.block g (blk_lt h1)).trans h1, h2, Kd.R_below h3 hb, h4⟩
/-- a row of another kind of numbers stays as it is -/
theorem Wrote.row {w0 w w1 : World} {g : Nat} {v u : Value} {s s' : List Bool} {base : Nat} {xs : List Int} (hI : Is w0 w g v s) (h : Wrote w0 w w1 g v s') (hr : (Kd.int .i64).R 3 w base (fun _ => True) u xs) : (Kd.int .i64).R 3 w1 base (fun _ => True) u xs := by
  obtain ⟨ys, f, h1, h2, h3, h4⟩ := hI
  obtain ⟨v2, _, _, hK, _⟩ := h
  have a1 : some g ≠ u.ownBlock := Kd.R_ne hr h1 (by decide)
  have a2 := Kd.R_apartR hr h3 (by decide)
  have a3 := Kd.R_tight rfl a2
  refine Kd.R_mono (Kd.R_step (Kd.R_tight rfl hr) (fun k hk hlt => hK.2 k hlt ?_ ?_)) (fun _ _ => trivial)
  · rintro rfl
    exact a1 hk
  · intro he
    exact (a2.1 k hk.symm).2 he
theorem search_calls (w : World) (base q c : Nat) (b r : Int) (fb : Bool) (hO : (Kd.int .i64).R 3 w base (fun _ => True) (.slice (some ⟨q, 0, none⟩) 7 c) CL) (h : slices_BinarySearch_int_int.f 20 CL b = some (r, fb)) :
    Calls Try.prog 15 #[.slice (some ⟨q, 0, none⟩) 7 c, .int .i64 b] w fun e w' => e = .returned (.tuple #[.int .i64 r, .bool fb]) ∧ Drawn0 w w' :=
  slices_BinarySearch_int_int.calls 20 _ _ CL _ _ fb w (Kd.R_reads' hO).2.2 (Kd.R_reads' hO).2.1 h
theorem cls_cell {w : World} {base q c : Nat} (hO : (Kd.int .i64).R 3 w base (fun _ => True) (.slice (some ⟨q, 0, none⟩) 7 c) CL) (i : Nat) (hi : i ≤ 6) : w.cell? ⟨q, i, none⟩ = some (.int .i64 (clsW i : Int)) := by
  have h := (Kd.R_celln 0 hO (i : Int) (by omega) (by omega)).1
  rw [Int.toNat_natCast] at h
  rw [h, ← rd_CL hi]; rfl
theorem hdr_len (i : Nat) : (hdr i).length ≤ i + 1 := by
  unfold hdr
  rw [List.length_append, List.length_replicate]
  split
  · rw [List.length_singleton]; omega
  · rw [List.length_nil]; omega
set_option maxHeartbeats 4000000 in
set_option maxRecDepth 100000 in
theorem count_calls (w0 w : World) (g : Nat) (v : Value) (s : List Bool) (n : Int) (hI : Is w0 w g v s) (hB : Below w0.heap.size w0 w) (hl : s.length ≤ 800000) (hn : 0 ≤ n ∧ n ≤ 18446744073709551615) :
    Calls Try.prog 6 #[.pointer (some ⟨g, 0, none⟩), .int .u64 n] w fun e w' => e = .returned (.tuple #[]) ∧ Wrote w0 w w' g v (s ++ encC n) := by
  obtain ⟨fb, hsearch⟩ := search_val hn.1 hn.2
  have hlong := long_val hn.1 hn.2 (k := 100) (Nat.le_refl _)
  have HS := Aside0.mk hsearch
  have HLG := Aside0.mk hlong
  have HI := Aside0.mk hI
  have HB := Aside0.mk hB
  have HL := Aside0.mk hl
  have HN := Aside0.mk hn
  have HC := Aside0.mk (cls_6 n)
  clear hsearch hlong hI hB hl hn
  go_enter Try.func6, Try.ntmps6
  go_wp2_with (first | (go_at_call 14; (with_reducible refine (bits_classes.calls CL _ rfl).mono ?_); rintro e w2 ⟨u, rfl, ho, hb⟩; obtain ⟨q, c, hu, _, _, _⟩ := Kd.R_form ho (by decide); rw [show CL.length = 7 from rfl] at hu; subst hu; have HO := Aside0.mk ho; have HB2 := Aside0.mk hb; clear ho hb) | (go_at_call 16; (with_reducible refine (bits_long.calls 100 _ _ _ HLG.out).mono ?_); rintro e w3 ⟨rfl, hd⟩; obtain ⟨⟨n1, hd⟩⟩ := hd; subst hd) | (go_at_call 15; (with_reducible refine (search_calls _ _ q c _ _ fb (Kd.R_drewN HO.out _) HS.out).mono ?_); rintro e w4 ⟨rfl, hd⟩; obtain ⟨⟨n2, hd⟩⟩ := hd; subst hd))
  have hI4 : Is w0 (w2.drewN (n1 + n2)) g v s := HI.out.below (pw_below_drewN HB2.out _)
  have hB4 : Below w.heap.size w (w2.drewN (n1 + n2)) := pw_below_drewN HB2.out _
  have hO4 : (Kd.int .i64).R 3 (w2.drewN (n1 + n2)) w.heap.size (fun _ => True) (.slice (some ⟨q, 0, none⟩) 7 c) CL := Kd.R_drewN HO.out _
  have hB40 : Below w0.heap.size w0 (w2.drewN (n1 + n2)) := HB.out.trans (hB4.mono HB.out.size)
  clear HO HB2 HS HLG
  generalize w2.drewN (n1 + n2) = w4 at *
  have HI4 := Aside0.mk hI4
  have HB4 := Aside0.mk hB4
  have HO4 := Aside0.mk hO4
  have HW := Aside0.mk (show Wrote w0 w4 w4 g v (s ++ List.replicate 0 true) by rw [List.replicate_zero, List.append_nil]; exact Wrote.refl hI4 hB40)
  clear hI4 hB4 hO4 hB40 HI HB
  have HCL := Aside0.mk (show encC n = hdr (cls n) ++ putB (clsW (cls n)) n from rfl)
  generalize cls n = cl at *
  go_loopg [16] cl (fun kq v16 w' => ∃ i : Nat, v16 = .int .i64 (i : Int) ∧ i + kq = cl ∧ Aside0 (Wrote w0 w4 w' g v (s ++ List.replicate i true)))
  case atStart => exact ⟨0, rfl, by omega, HW⟩
  case round =>
    obtain ⟨i, rfl, hk, HW2⟩ := hrel
    clear HW
    obtain ⟨v1, hI1, hB1, hK1, hF1⟩ := HW2.out
    have HI1 := Aside0.mk hI1
    have HB1 := Aside0.mk hB1
    have HK1 := Aside0.mk hK1
    have HF1 := Aside0.mk hF1
    have HL1 := Aside0.mk (show (s ++ List.replicate i true).length ≤ 800010 by have := HL.out; have := HC.out; rw [List.length_append, List.length_replicate]; omega)
    have hi6 : (i : Int) ≤ 6 := by have := HC.out; omega
    have hi0 : 0 ≤ (i : Int) := by omega
    have hi7 : (i : Int) < 7 := by omega
    clear hI1 hB1 hK1 hF1
    cases gk with
    | zero =>
      have : i = cl := by omega
      subst this
      by_cases h6 : i < 6
      · have h6i : (i : Int) < 6 := by omega
        have HT := Aside0.mk (fun w5 (h : Wrote w0 wr w5 g v1 (s ++ List.replicate i true ++ [false])) => (show Wrote w0 w4 w5 g v (s ++ hdr i) by
          rw [hdr, if_pos h6, ← List.append_assoc]; exact Wrote.step HK1.out HF1.out h))
        go_wp2_with (first | (go_at_call 17; (with_reducible refine (bit_calls w0 _ g v1 _ _ HI1.out HB1.out (Nat.le_trans HL1.out (by decide))).mono ?_); rintro e w5 ⟨rfl, hw⟩; have hw5 := HT.out _ hw; have hx := cls_cell (Wrote.row HI4.out hw5 HO4.out) i (by omega); obtain ⟨v2, hI2, hB2, hK2, hF2⟩ := hw5; have HI2 := Aside0.mk hI2; have HB2 := Aside0.mk hB2; have HK2 := Aside0.mk hK2; have HF2 := Aside0.mk hF2; clear hw hI2 hB2 hK2 hF2) | (go_at_call 18; (with_reducible refine (put_calls w0 _ g v2 _ n (clsW i) HI2.out HB2.out (by rw [List.length_append]; have := HL.out; have := HC.out; have := hdr_len i; omega) (clsW_le i) HN.out).mono ?_); rintro e w6 ⟨rfl, hw⟩; have HW6 := Aside0.mk hw; clear hw))
        go_end0
        have h := Wrote.step HK2.out HF2.out HW6.out
        rw [List.append_assoc, ← HCL.out] at h
        exact ⟨rfl, Wrote.step (KeepBut.of_below HB4.out g _) (fun _ hk => .inl hk) h⟩
      · have h6i : ¬ (i : Int) < 6 := by omega
        have e6 : i = 6 := by omega
        have HT := Aside0.mk (show Wrote w0 w4 wr g v (s ++ hdr i) by rw [hdr, if_neg h6, List.append_nil]; exact HW2.out)
        have hx := cls_cell (Wrote.row HI4.out HT.out HO4.out) i (by omega)
        obtain ⟨v2, hI2, hB2, hK2, hF2⟩ := HT.out
        have HI2 := Aside0.mk hI2
        have HB2 := Aside0.mk hB2
        have HK2 := Aside0.mk hK2
        have HF2 := Aside0.mk hF2
        clear hI2 hB2 hK2 hF2 e6
        go_wp2_with (go_at_call 18; (with_reducible refine (put_calls w0 _ g v2 _ n (clsW i) HI2.out HB2.out (by rw [List.length_append]; have := HL.out; have := HC.out; have := hdr_len i; omega) (clsW_le i) HN.out).mono ?_); rintro e w6 ⟨rfl, hw⟩; have HW6 := Aside0.mk hw; clear hw)
        go_end0
        have h := Wrote.step HK2.out HF2.out HW6.out
        rw [List.append_assoc, ← HCL.out] at h
        exact ⟨rfl, Wrote.step (KeepBut.of_below HB4.out g _) (fun _ hk => .inl hk) h⟩
    | succ d =>
      have hlt : (i : Int) < (cl : Int) := by omega
      go_wp2_with (go_at_call 17; (with_reducible refine (bit_calls w0 _ g v1 _ _ HI1.out HB1.out (Nat.le_trans HL1.out (by decide))).mono ?_); rintro e w5 ⟨rfl, hw⟩; have HW := Aside0.mk hw; clear hw)
      go_roundg d
      case measure => omega
      case rel =>
        refine ⟨i + 1, by go_num, by omega, ⟨Wrote.step HK1.out HF1.out ?_⟩⟩
        have h := HW.out
        rw [List.append_assoc, ← List.replicate_succ'] at h
        exact h
end Go.Proofs.Ytiihngpenpalaaa.Wr
