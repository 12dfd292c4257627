/- BitsShort answers true for every input: small counts take no more bits than great ones; two counts are laid alike just if they are one. Its parameters are whole numbers of 64 bits. -/
import Derived.Test.YtiihngpenpalaaaWrTwo
namespace Go.Proofs.Ytiihngpenpalaaa.Wr
open Go.RowKit Go.Proofs.Ytiihngpenpalaaa Go.Proofs.Ytiihngpenpalaaa.PBitsJoin Go.Proofs.YtiihngpenpalaaaW.PrintWords Go.Proofs.YtiihngpenpalaaaW.PrintLast Go.Proofs.YtiihngpenpalaaaW.PrintMore Bt Mth
theorem Is.drewN {w0 w : World} {g : Nat} {v : Value} {s : List Bool} (h : Is w0 w g v s) (n : Nat) : Is w0 (w.drewN n) g v s := h
set_option maxHeartbeats 8000000 in
set_option maxRecDepth 100000 in
theorem short_calls (a b : Int) (ha : 0 ≤ a ∧ a ≤ 18446744073709551615) (hb : 0 ≤ b ∧ b ≤ 18446744073709551615) (w : World) :
    Calls Try.prog 4 #[.int .u64 a, .int .u64 b] w fun e w' => e = .returned (.bool true) ∧ Below w.heap.size w w' := by
  have HT := Aside0.mk (Two.new w)
  have HI := Aside0.mk HT.out.1
  have HB := Aside0.mk (((Below.refl w.heap.size w).alloc (Nat.le_refl _) (.cells #[.slice none 0 0, .int .u64 0] 27)).alloc (by simp) (.cells #[.slice none 0 0, .int .u64 0] 27))
  have HA := Aside0.mk ha
  have HBB := Aside0.mk hb
  have HEA := Aside0.mk (encC_len a)
  have HEB := Aside0.mk (encC_len b)
  clear ha hb
  go_enter Try.func4, Try.ntmps4
  go_upto_region 4 with (first | (go_at_call 6; (with_reducible refine (count_calls w _ w.heap.size _ [] a HI.out HB.out (by decide) HA.out).mono ?_); rintro e w2 ⟨rfl, hw⟩; obtain ⟨v1, hT2, hB2⟩ := HT.out.left hw; rw [List.nil_append] at hT2; have HT2 := Aside0.mk hT2.swap; have HI2 := Aside0.mk hT2.2.1; have HB2 := Aside0.mk hB2; clear hw hT2 hB2) | (go_at_call 6; (with_reducible refine (count_calls w _ _ _ [] b HI2.out HB2.out (by decide) HBB.out).mono ?_); rintro e w3 ⟨rfl, hw⟩; obtain ⟨v2, hT3, hB3⟩ := HT2.out.left hw; rw [List.nil_append] at hT3; have HT3 := Aside0.mk hT3.swap; have HB3 := Aside0.mk hB3; clear hw hT3 hB3))
  have HL1 := Aside0.mk (fun w' (h : Is w w' w.heap.size v1 (encC a)) => len_calls w w' _ v1 _ h (Nat.le_trans HEA.out (by decide)))
  have HL2 := Aside0.mk (fun w' (h : Is w w' (w.heap.size + 1) v2 (encC b)) => len_calls w w' _ v2 _ h (Nat.le_trans HEB.out (by decide)))
  clear HT HB HT2 HB2 HI HI2
  have HI1 := Aside0.mk HT3.out.1
  have HI2 := Aside0.mk HT3.out.2.1
  by_cases hab : a ≤ b
  · have hm := encC_mono hab
    have hle : ((encC a).length : Int) ≤ (encC b).length := by omega
    have HM := Aside0.mk hm
    clear hm
    go_upto_region 6 with (first | (go_at_call 7; (with_reducible refine (HL1.out _ HI1.out).mono ?_); rintro e w4 ⟨rfl, n4, rfl⟩) | (go_at_call 7; (with_reducible refine (HL2.out (w3.drewN _) (HI2.out.drewN _)).mono ?_); rintro e w5 ⟨rfl, n5, rfl⟩))
    have HI14 := Aside0.mk (HI1.out.drewN (n4 + n5))
    have HI24 := Aside0.mk (HI2.out.drewN (n4 + n5))
    have HB4 := Aside0.mk (pw_below_drewN HB3.out (n4 + n5))
    clear HI1 HI2 HB3 HT3 HM hle hab
    generalize w3.drewN (n4 + n5) = w4 at *
    have HAB := Aside0.mk (show ∀ c : Bool, c = decide (encC a = encC b) → c = (a == b) from fun c hc => by
      rw [hc, Bool.eq_iff_iff, decide_eq_true_iff, beq_iff_eq]
      exact ⟨encC_inj HA.out HBB.out, fun h => by rw [h]⟩)
    by_cases hlen : (encC a).length = (encC b).length
    · have HLN := Aside0.mk hlen
      have hl1 : (((encC a).length : Int) == ((encC b).length : Int)) = true := beq_iff_eq.2 (by omega)
      have hl2 : (((encC a).length) == ((encC b).length)) = true := beq_iff_eq.2 hlen
      clear hlen
      go_wp2_with (first | (go_at_call 5; (with_reducible refine (awake_calls _).mono ?_); rintro e w5 ⟨rfl, hb⟩; have HI15 := Aside0.mk (HI14.out.below hb); have HI25 := Aside0.mk (HI24.out.below hb); have HB5 := Aside0.mk (HB4.out.trans (hb.mono HB4.out.size)); clear hb) | (go_at_call 7; (with_reducible refine (HL1.out _ HI15.out).mono ?_); rintro e w51 ⟨rfl, n6, rfl⟩) | (go_at_call 7; (with_reducible refine (HL2.out (w5.drewN _) (HI25.out.drewN _)).mono ?_); rintro e w52 ⟨rfl, n7, rfl⟩) | (go_at_call 9; (with_reducible refine (bytes_calls w (w5.drewN _) _ v1 _ (HI15.out.drewN _) (Nat.le_trans HEA.out (by decide))).mono ?_); rintro e w6 ⟨u1, xs1, f1, rfl, ho1, hp1, hb1⟩; obtain ⟨A1, c1, hu⟩ := Kd.R_slice ho1; subst hu; have HO1 := Aside0.mk ho1; have HP1 := Aside0.mk hp1; have HI26 := Aside0.mk ((HI25.out.drewN _).below hb1); have HB6 := Aside0.mk ((pw_below_drewN HB5.out _).trans (hb1.mono (pw_below_drewN HB5.out _).size)); clear ho1 hp1 hb1) | (go_at_call 9; (with_reducible refine (bytes_calls w w6 _ v2 _ HI26.out (Nat.le_trans HEB.out (by decide))).mono ?_); rintro e w7 ⟨u2, xs2, f2, rfl, ho2, hp2, hb2⟩; obtain ⟨A2, c2, hu⟩ := Kd.R_slice ho2; subst hu; have HC1 := Aside0.mk (Kd.R_reads' (Kd.R_below HO1.out hb2)).2.2; have HC2 := Aside0.mk (Kd.R_reads' ho2).2.2; have HP2 := Aside0.mk hp2; have HB7 := Aside0.mk (HB6.out.trans (hb2.mono HB6.out.size)); clear ho2 hp2 hb2) | (go_at_call 13; (with_reducible refine (same_calls w7 _ _ _ _ xs1 xs2 HC1.out HC2.out).mono ?_); rintro e w8 ⟨rfl, n8, rfl⟩))
      go_ret
      have hx := HAB.out _ (pk_same HP1.out HP2.out HLN.out)
      refine ⟨?_, pw_below_drewN HB7.out _⟩
      rw [hx]
      simp
    · have hne : (a == b) = false := beq_eq_false_iff_ne.2 (fun h => hlen (by rw [h]))
      have hl1 : (((encC a).length : Int) == ((encC b).length : Int)) = false := beq_eq_false_iff_ne.2 (by omega)
      have hl2 : (((encC a).length) == ((encC b).length)) = false := beq_eq_false_iff_ne.2 hlen
      clear hlen
      go_wp2_with (first | (go_at_call 5; (with_reducible refine (awake_calls _).mono ?_); rintro e w5 ⟨rfl, hb⟩; have HI15 := Aside0.mk (HI14.out.below hb); have HI25 := Aside0.mk (HI24.out.below hb); have HB5 := Aside0.mk (HB4.out.trans (hb.mono HB4.out.size)); clear hb) | (go_at_call 7; (with_reducible refine (HL1.out _ HI15.out).mono ?_); rintro e w51 ⟨rfl, n6, rfl⟩) | (go_at_call 7; (with_reducible refine (HL2.out (w5.drewN _) (HI25.out.drewN _)).mono ?_); rintro e w52 ⟨rfl, n7, rfl⟩))
      go_ret
      exact ⟨rfl, pw_below_drewN HB5.out _⟩
  · have hab2 : ¬ (a ≤ b) := hab
    go_upto_region 6 with (fail)
    have HI14 := HI1
    have HI24 := HI2
    have HB4 := HB3
    clear HI1 HI2 HB3 HT3 hab hab2
    generalize w3 = w4 at *
    have HAB := Aside0.mk (show ∀ c : Bool, c = decide (encC a = encC b) → c = (a == b) from fun c hc => by
      rw [hc, Bool.eq_iff_iff, decide_eq_true_iff, beq_iff_eq]
      exact ⟨encC_inj HA.out HBB.out, fun h => by rw [h]⟩)
    by_cases hlen : (encC a).length = (encC b).length
    · have HLN := Aside0.mk hlen
      have hl1 : (((encC a).length : Int) == ((encC b).length : Int)) = true := beq_iff_eq.2 (by omega)
      have hl2 : (((encC a).length) == ((encC b).length)) = true := beq_iff_eq.2 hlen
      clear hlen
      go_wp2_with (first | (go_at_call 5; (with_reducible refine (awake_calls _).mono ?_); rintro e w5 ⟨rfl, hb⟩; have HI15 := Aside0.mk (HI14.out.below hb); have HI25 := Aside0.mk (HI24.out.below hb); have HB5 := Aside0.mk (HB4.out.trans (hb.mono HB4.out.size)); clear hb) | (go_at_call 7; (with_reducible refine (HL1.out _ HI15.out).mono ?_); rintro e w51 ⟨rfl, n6, rfl⟩) | (go_at_call 7; (with_reducible refine (HL2.out (w5.drewN _) (HI25.out.drewN _)).mono ?_); rintro e w52 ⟨rfl, n7, rfl⟩) | (go_at_call 9; (with_reducible refine (bytes_calls w (w5.drewN _) _ v1 _ (HI15.out.drewN _) (Nat.le_trans HEA.out (by decide))).mono ?_); rintro e w6 ⟨u1, xs1, f1, rfl, ho1, hp1, hb1⟩; obtain ⟨A1, c1, hu⟩ := Kd.R_slice ho1; subst hu; have HO1 := Aside0.mk ho1; have HP1 := Aside0.mk hp1; have HI26 := Aside0.mk ((HI25.out.drewN _).below hb1); have HB6 := Aside0.mk ((pw_below_drewN HB5.out _).trans (hb1.mono (pw_below_drewN HB5.out _).size)); clear ho1 hp1 hb1) | (go_at_call 9; (with_reducible refine (bytes_calls w w6 _ v2 _ HI26.out (Nat.le_trans HEB.out (by decide))).mono ?_); rintro e w7 ⟨u2, xs2, f2, rfl, ho2, hp2, hb2⟩; obtain ⟨A2, c2, hu⟩ := Kd.R_slice ho2; subst hu; have HC1 := Aside0.mk (Kd.R_reads' (Kd.R_below HO1.out hb2)).2.2; have HC2 := Aside0.mk (Kd.R_reads' ho2).2.2; have HP2 := Aside0.mk hp2; have HB7 := Aside0.mk (HB6.out.trans (hb2.mono HB6.out.size)); clear ho2 hp2 hb2) | (go_at_call 13; (with_reducible refine (same_calls w7 _ _ _ _ xs1 xs2 HC1.out HC2.out).mono ?_); rintro e w8 ⟨rfl, n8, rfl⟩))
      go_ret
      have hx := HAB.out _ (pk_same HP1.out HP2.out HLN.out)
      refine ⟨?_, pw_below_drewN HB7.out _⟩
      rw [hx]
      simp
    · have hne : (a == b) = false := beq_eq_false_iff_ne.2 (fun h => hlen (by rw [h]))
      have hl1 : (((encC a).length : Int) == ((encC b).length : Int)) = false := beq_eq_false_iff_ne.2 (by omega)
      have hl2 : (((encC a).length) == ((encC b).length)) = false := beq_eq_false_iff_ne.2 hlen
      clear hlen
      go_wp2_with (first | (go_at_call 5; (with_reducible refine (awake_calls _).mono ?_); rintro e w5 ⟨rfl, hb⟩; have HI15 := Aside0.mk (HI14.out.below hb); have HI25 := Aside0.mk (HI24.out.below hb); have HB5 := Aside0.mk (HB4.out.trans (hb.mono HB4.out.size)); clear hb) | (go_at_call 7; (with_reducible refine (HL1.out _ HI15.out).mono ?_); rintro e w51 ⟨rfl, n6, rfl⟩) | (go_at_call 7; (with_reducible refine (HL2.out (w5.drewN _) (HI25.out.drewN _)).mono ?_); rintro e w52 ⟨rfl, n7, rfl⟩))
      go_ret
      exact ⟨rfl, pw_below_drewN HB5.out _⟩
end Go.Proofs.Ytiihngpenpalaaa.Wr
