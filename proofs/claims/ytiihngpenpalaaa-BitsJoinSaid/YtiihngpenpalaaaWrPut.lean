/- The contracts of (*bits.Writer).Put and Len: so many bits of a number, the highest first, behind those that were laid; how many were laid. Conditions: at most 64 bits, fewer than 2^19 so far. -/
import Derived.Test.YtiihngpenpalaaaWrBit
import Derived.Lib.SliceRun
namespace Go.Proofs.Ytiihngpenpalaaa.Wr
open Go.RowKit Go.Proofs.Ytiihngpenpalaaa Go.Proofs.YtiihngpenpalaaaW.PrintWords Go.Proofs.YtiihngpenpalaaaW.PrintLast Go.Proofs.YtiihngpenpalaaaW.PrintMore Bt Mth
attribute [local go_sem] max2_int min2_int max_two min_two max_three min_three max_four min_four
theorem Wrote.refl {w0 w : World} {g : Nat} {v : Value} {s : List Bool} (h : Is w0 w g v s) (hB : Below w0.heap.size w0 w) : Wrote w0 w w g v s := ⟨v, h, hB, KeepBut.refl _ _ _, fun _ hk => .inl hk⟩
theorem Wrote.step {w0 w w1 w2 : World} {g : Nat} {v v1 : Value} {s : List Bool} (hK : KeepBut w w1 g v.ownBlock) (hF : From w v v1) (h : Wrote w0 w1 w2 g v1 s) : Wrote w0 w w2 g v s := by
  obtain ⟨v2, h1, h2, h3, h4⟩ := h
  refine ⟨v2, h1, h2, ⟨Nat.le_trans hK.1 h3.1, fun i hi hg hr => (h3.2 i (Nat.lt_of_lt_of_le hi hK.1) hg ?_).trans (hK.2 i hi hg hr)⟩, fun k hk => ?_⟩
  · intro he
    rcases hF i he.symm with h | h
    · exact hr h.symm
    · omega
  · rcases h4 k hk with h | h
    · exact hF k h
    · exact .inr (Nat.le_trans hK.1 h)
theorem bit_val (n : Int) (d : Nat) : ((Go.bits .and .u64 (n / 2 ^ d) 1 == 1) : Bool) = decide (n / 2 ^ d % 2 = 1) := by
  have := mask_low_u64 (n / 2 ^ d) (n := 1) (by omega)
  rw [show (2 : Int) ^ 1 - 1 = 1 from rfl, show (2 : Int) ^ 1 = 2 from rfl] at this
  rw [this, Bool.eq_iff_iff, beq_iff_eq, decide_eq_true_iff]
set_option maxHeartbeats 4000000 in
set_option maxRecDepth 100000 in
theorem put_calls (w0 w : World) (g : Nat) (v : Value) (s : List Bool) (n : Int) (m : Nat) (hI : Is w0 w g v s) (hB : Below w0.heap.size w0 w) (hl : s.length ≤ 900000) (hm : m ≤ 64) (hn : 0 ≤ n ∧ n ≤ 18446744073709551615) :
    Calls Try.prog 18 #[.pointer (some ⟨g, 0, none⟩), .int .u64 n, .int .i64 (m : Int)] w fun e w' => e = .returned (.tuple #[]) ∧ Wrote w0 w w' g v (s ++ putB m n) := by
  have HW := Aside0.mk (show Wrote w0 w w g v (s ++ (putB m n).take 0) by rw [List.take_zero, List.append_nil]; exact Wrote.refl hI hB)
  have HL := Aside0.mk hl
  have HN := Aside0.mk hn
  have HP := Aside0.mk (putB_len m n)
  clear hI hB hl hn
  by_cases hm0 : m = 0
  · subst hm0
    go_enter Try.func18, Try.ntmps18
    go_wp2_with fail
    go_loopg [6] 0 (fun kq v6 w' => v6 = .int .i64 (-1) ∧ Aside0 (w' = w))
    case atStart => exact ⟨rfl, ⟨rfl⟩⟩
    case round =>
      obtain ⟨rfl, HE⟩ := hrel
      go_wp2_with fail
      go_end0
      have := HW.out
      rw [List.take_zero] at this
      refine ⟨rfl, ?_⟩
      rw [HE.out]
      exact this
  · have hmp : 0 < m := by omega
    go_enter Try.func18, Try.ntmps18
    go_wp2_with fail
    go_loopg [6] m (fun kq v6 w' => v6 = .int .i64 ((kq : Int) - 1) ∧ kq ≤ m ∧ Aside0 (Wrote w0 w w' g v (s ++ (putB m n).take (m - kq))))
    case atStart => exact ⟨rfl, Nat.le_refl _, ⟨by rw [Nat.sub_self]; exact HW.out⟩⟩
    case round =>
      obtain ⟨rfl, hk, HW2⟩ := hrel
      clear HW
      cases gk with
      | zero =>
        go_wp2_with fail
        go_end0
        refine ⟨rfl, ?_⟩
        have := HW2.out
        rw [Nat.sub_zero, List.take_of_length_le (by rw [HP.out]; exact Nat.le_refl _)] at this
        exact this
      | succ d =>
        obtain ⟨v1, hI1, hB1, hK1, hF1⟩ := HW2.out
        have HI1 := Aside0.mk hI1
        have HB1 := Aside0.mk hB1
        have HK1 := Aside0.mk hK1
        have HF1 := Aside0.mk hF1
        have HL1 := Aside0.mk (show (s ++ (putB m n).take (m - (d + 1))).length ≤ 1000000 by have := HL.out; rw [List.length_append, List.length_take]; omega)
        clear hI1 hB1 hK1 hF1 HW2
        rw [show (((d + 1 : Nat) : Int) - 1) = (d : Int) from by omega]
        have hd0 : 0 ≤ (d : Int) := by omega
        go_wp2_with (go_at_call 17; (with_reducible refine (bit_calls w0 _ g v1 _ _ HI1.out HB1.out HL1.out).mono ?_); rintro e w2 ⟨rfl, hw⟩; have HW := Aside0.mk hw; clear hw)
        go_roundg d
        case measure => omega
        case rel =>
          refine ⟨rfl, by omega, ⟨Wrote.step HK1.out HF1.out ?_⟩⟩
          have h := HW.out
          have e : (putB m n).take (m - d) = (putB m n).take (m - (d + 1)) ++ [decide (n / 2 ^ d % 2 = 1)] := by
            rw [show m - d = m - (d + 1) + 1 from by omega, List.take_add_one, putB_get m n (m - (d + 1)) (by omega), show m - 1 - (m - (d + 1)) = d from by omega]; rfl
          rw [bit_val, List.append_assoc, ← e] at h
          exact h
set_option maxHeartbeats 4000000 in
theorem len_calls (w0 w : World) (g : Nat) (v : Value) (s : List Bool) (hI : Is w0 w g v s) (hl : s.length ≤ 1000000) :
    Calls Try.prog 7 #[.pointer (some ⟨g, 0, none⟩)] w fun e w' => e = .returned (.int .i64 (s.length : Int)) ∧ ∃ n, w' = w.drewN n := by
  obtain ⟨xs, f, hblk, hg, hown, hpk⟩ := hI
  obtain ⟨A, c, rfl⟩ := Kd.R_slice hown
  have hlen := pk_len hpk
  have hf07 : 0 ≤ f ∧ f ≤ 7 := ⟨hpk.2.1, hpk.2.2.1⟩
  have hxl : xs.length ≤ 1000000 := by omega
  have hc0 := hblk.c0
  have hc1 := hblk.c1
  have HLEN := Aside0.mk hlen
  clear hblk hg hown hpk hlen
  go_enter Try.func7, Try.ntmps7
  go_wp2
  go_quiet (fail)
  go_wp2
  go_ret
  have e : (s.length : Int) = 8 * (xs.length : Int) - f := by have := HLEN.out; omega
  rw [e]
  exact ⟨rfl, _, rfl⟩
set_option maxHeartbeats 4000000 in
/-- slices.Clone of bytes: a row of its own -/
theorem clone_calls (w : World) (A : Option Addr) (c : Nat) (xs : List Int) (hr : (Kd.int .u8).C w A xs.length xs) (hl : xs.length ≤ 1000000) :
    Calls Try.prog 19 #[.slice A xs.length c] w fun e w' => ∃ v, e = .returned v ∧ Own w w' v xs ∧ Below w.heap.size w w' := by
  have HR := Aside0.mk hr
  have HB := Aside0.mk (Below.refl w.heap.size w)
  have HL := Aside0.mk hl
  clear hr hl
  cases A with
  | none =>
    have hnil : xs = [] := by
      rcases Nat.eq_zero_or_pos xs.length with h | h
      · exact List.eq_nil_of_length_eq_zero h
      · obtain ⟨ad, h, _⟩ := HR.out.2.2 h
        exact absurd h (by simp)
    subst hnil
    have heq : (binOp .eql 24 (.slice none 0 c) (.slice none 0 0)).run Try.prog w = .ok (.bool true) w := Lib.run_eql_slice_nil (P := Try.prog) w 24 5 none 0 c 0 0 Try.underlying24
    go_enter Try.func19, Try.ntmps19
    go_wp2
    go_ret
    exact ⟨_, rfl, Kd.R_nil _ _ _ _ _, HB.out⟩
  | some ad =>
    have heq : (binOp .eql 24 (.slice (some ad) xs.length c) (.slice none 0 0)).run Try.prog w = .ok (.bool false) w := Lib.run_eql_slice_nil (P := Try.prog) w 24 5 (some ad) xs.length c 0 0 Try.underlying24
    go_enter Try.func19, Try.ntmps19
    go_wp2_with (first | ((with_reducible refine gate_dst (N := 5) rfl ?_); refine Kd.R_lit (Kd.int .u8) (w0 := w) w.heap.size 5 ?hg (N := 5) ?hd (xs := ([] : List Int)) (inner := []) (ok := fun _ => True) (okp := fun _ => True) ?hr ?hp (fun _ hk => hk) trivial HB.out (Nat.le_refl _) (by simp) ?_; (case hd => rfl); (case hg => rfl); (case hr => first | (go_simp; done) | (go_simp; rfl)); (case hp => exact (Reps.none _ _)); intro v1 w1 ho hb hg hnew; have HO := Aside0.mk ho; have HB1 := Aside0.mk hb; have HC1 := Aside0.mk (Kd.C_below HR.out hb); have HZ := Aside0.mk hb.size; have HW := Aside0.mk hnew; clear ho hb hg hnew) | ((with_reducible refine gate_builtin (b := .append) (xs := #[.tmp 5, .tmp 6]) rfl ?_); at_builtin; refine Kd.R_append_rows (Kd.int .u8) (w0 := w) w.heap.size rfl (.tmp 5) (.tmp 6) 24 5 (.int .u8 0) 1 rfl Try.underlying24 info5 rfl (by decide) (by omega) _ ([] : List Int) xs _ _ _ (fun _ => True) (fun _ => False) rfl rfl HO.out HC1.out (fun _ _ h => h) (fun _ h => h.elim) (fun _ _ => trivial) HB1.out HZ.out (by have := HL.out; rw [List.length_nil]; omega) ?_; intro v2 w2 ho hb hg hat; have HO2 := Aside0.mk ho; have HB2 := Aside0.mk hb; clear ho hb hg hat))
    go_ret
    exact ⟨_, rfl, HO2.out, HB2.out⟩
set_option maxHeartbeats 4000000 in
/-- (*bits.Writer).Bytes -/
theorem bytes_calls (w0 w : World) (g : Nat) (v : Value) (s : List Bool) (hI : Is w0 w g v s) (hl : s.length ≤ 1000000) :
    Calls Try.prog 9 #[.pointer (some ⟨g, 0, none⟩)] w fun e w' => ∃ u xs f, e = .returned u ∧ Own w w' u xs ∧ Pk xs f s ∧ Below w.heap.size w w' := by
  obtain ⟨xs, f, hblk, hg, hown, hpk⟩ := hI
  obtain ⟨A, c, rfl⟩ := Kd.R_slice hown
  have hlen := pk_len hpk
  have hf0 : 0 ≤ f ∧ f ≤ 7 := ⟨hpk.2.1, hpk.2.2.1⟩
  have HXL := Aside0.mk (show xs.length ≤ 1000000 by omega)
  have hc0 := hblk.c0
  have HR := Aside0.mk (Kd.R_reads' hown).2.2
  have HPK := Aside0.mk hpk
  clear hblk hg hown hpk hlen hf0
  go_enter Try.func9, Try.ntmps9
  go_wp2_with (go_at_call 19; (with_reducible refine (clone_calls _ _ _ xs HR.out HXL.out).mono ?_); rintro e w2 ⟨u, rfl, ho, hb⟩; have HO := Aside0.mk ho; have HB := Aside0.mk hb; clear ho hb)
  go_ret
  exact ⟨u, xs, f, rfl, HO.out, HPK.out, HB.out⟩
end Go.Proofs.Ytiihngpenpalaaa.Wr
