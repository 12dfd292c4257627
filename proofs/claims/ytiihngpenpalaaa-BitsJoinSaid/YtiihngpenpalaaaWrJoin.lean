/- BitsJoin answers true for every input: what is laid in two parts by one writer is taken in two parts, and as many bits are left between as the second one has. Its parameters are lists of 64-bit numbers. -/
import Derived.Test.YtiihngpenpalaaaWrTwo
import Derived.Test.YtiihngpenpalaaaRdOk
namespace Go.Proofs.Ytiihngpenpalaaa.Wr
open Go.RowKit Go.Proofs.Ytiihngpenpalaaa Go.Proofs.Ytiihngpenpalaaa.PBitsJoin Go.Proofs.YtiihngpenpalaaaW.PrintWords Go.Proofs.YtiihngpenpalaaaW.PrintLast Go.Proofs.YtiihngpenpalaaaW.PrintMore Bt Mth
/-- counts, one behind the other -/
def encS (l : List Int) : List Bool := (l.map encC).flatten
theorem encS_nil : encS [] = [] := rfl
theorem encS_cons (x : Int) (l : List Int) : encS (x :: l) = encC x ++ encS l := rfl
theorem encS_append (a b : List Int) : encS (a ++ b) = encS a ++ encS b := by unfold encS; simp
theorem encL_le (i : Nat) : encL i ≤ 70 := by unfold encL; (repeat' split) <;> omega
theorem encS_len : ∀ l : List Int, (encS l).length ≤ 70 * l.length
  | [] => by simp [encS_nil]
  | x :: l => by
    have := encS_len l
    have := encL_le (cls x)
    have := encC_length x
    rw [encS_cons, List.length_append, List.length_cons]; omega
theorem encS_succ {l : List Int} {i : Nat} (hi : i < l.length) : encS (l.take (i + 1)) = encS (l.take i) ++ encC l[i] := by
  rw [List.take_succ_eq_append_getElem hi, encS_append, encS_cons, encS_nil, List.append_nil]
theorem encS_split {l : List Int} {i : Nat} (hi : i < l.length) : encS l = encS (l.take i) ++ (encC l[i] ++ encS (l.drop (i + 1))) := by
  rw [← encS_cons, ← List.drop_eq_getElem_cons hi, ← encS_append, List.take_append_drop]
theorem rd_get {l : List Int} {i : Nat} (hi : i < l.length) : rd l (i : Int) = l[i] := by
  unfold rd; rw [Int.toNat_natCast, List.getD_eq_getElem?_getD, List.getElem?_eq_getElem hi]; rfl
theorem encS_take_len {l : List Int} (hl : l.length ≤ 50) (i : Nat) : (encS (l.take i)).length ≤ 3500 := by
  have := encS_len (l.take i)
  rw [List.length_take] at this
  omega
/-- two writers that the call has made -/
def J (w W : World) (s t : List Bool) : Prop := ∃ v1 v2, Two w W w.heap.size v1 s (w.heap.size + 1) v2 t ∧ Below w.heap.size w W
theorem J.new (w : World) : J w ((w.alloc (.cells #[.slice none 0 0, .int .u64 0] 27)).alloc (.cells #[.slice none 0 0, .int .u64 0] 27)) [] [] :=
  ⟨_, _, Two.new w, ((Below.refl w.heap.size w).alloc (Nat.le_refl _) _).alloc (by simp) _⟩
theorem J.below {w W W1 : World} {s t : List Bool} (h : J w W s t) (hb : Below W.heap.size W W1) : J w W1 s t := by
  obtain ⟨v1, v2, h1, h2⟩ := h
  exact ⟨v1, v2, h1.below hb, h2.trans (hb.mono h2.size)⟩
theorem J.drewN {w W : World} {s t : List Bool} (h : J w W s t) (n : Nat) : J w (W.drewN n) s t := h.below (pw_below_drewN (Below.refl _ _) n)
theorem J.out {w W : World} {s t : List Bool} (h : J w W s t) : Below w.heap.size w W := by obtain ⟨_, _, _, h2⟩ := h; exact h2
theorem J.count1 {w W : World} {s t : List Bool} (h : J w W s t) (hl : s.length ≤ 800000) {n : Int} (hn : 0 ≤ n ∧ n ≤ 18446744073709551615) :
    Calls Try.prog 6 #[.pointer (some ⟨w.heap.size, 0, none⟩), .int .u64 n] W fun e w' => e = .returned (.tuple #[]) ∧ J w w' (s ++ encC n) t := by
  obtain ⟨v1, v2, h1, h2⟩ := h
  refine (count_calls w W _ v1 s n h1.1 h2 hl hn).mono ?_
  rintro e w' ⟨he, hw⟩
  obtain ⟨v, h3, h4⟩ := h1.left hw
  exact ⟨he, v, v2, h3, h4⟩
theorem J.count2 {w W : World} {s t : List Bool} (h : J w W s t) (hl : t.length ≤ 800000) {n : Int} (hn : 0 ≤ n ∧ n ≤ 18446744073709551615) :
    Calls Try.prog 6 #[.pointer (some ⟨w.heap.size + 1, 0, none⟩), .int .u64 n] W fun e w' => e = .returned (.tuple #[]) ∧ J w w' s (t ++ encC n) := by
  obtain ⟨v1, v2, h1, h2⟩ := h
  refine (count_calls w W _ v2 t n h1.2.1 h2 hl hn).mono ?_
  rintro e w' ⟨he, hw⟩
  obtain ⟨v, h3, h4⟩ := h1.swap.left hw
  exact ⟨he, v1, v, h3.swap, h4⟩
theorem J.len1 {w W : World} {s t : List Bool} (h : J w W s t) (hl : s.length ≤ 1000000) {n : Int} (hn : (s.length : Int) = n) :
    Calls Try.prog 7 #[.pointer (some ⟨w.heap.size, 0, none⟩)] W fun e w' => e = .returned (.int .i64 n) ∧ ∃ m, w' = W.drewN m := by
  obtain ⟨v1, v2, h1, h2⟩ := h
  rw [← hn]
  exact len_calls w W _ v1 s h1.1 hl
theorem J.len2 {w W : World} {s t : List Bool} (h : J w W s t) (hl : t.length ≤ 1000000) {n : Int} (hn : (t.length : Int) = n) :
    Calls Try.prog 7 #[.pointer (some ⟨w.heap.size + 1, 0, none⟩)] W fun e w' => e = .returned (.int .i64 n) ∧ ∃ m, w' = W.drewN m := by
  obtain ⟨v1, v2, h1, h2⟩ := h
  rw [← hn]
  exact len_calls w W _ v2 t h1.2.1 hl
theorem J.bytes1 {w W : World} {s t : List Bool} (h : J w W s t) (hl : s.length ≤ 1000000) :
    Calls Try.prog 9 #[.pointer (some ⟨w.heap.size, 0, none⟩)] W fun e w' => ∃ u xs f, e = .returned u ∧ Own W w' u xs ∧ Pk xs f s ∧ Below W.heap.size W w' := by
  obtain ⟨v1, v2, h1, h2⟩ := h
  exact bytes_calls w W _ v1 s h1.1 hl
theorem awake_is (w : World) (r : Bool) (hr : r = true) : Calls Try.prog 5 #[] w fun e w' => e = .returned (.bool r) ∧ Below w.heap.size w w' := by
  subst hr; exact awake_calls w
set_option maxHeartbeats 16000000 in
set_option maxRecDepth 100000 in
theorem join_calls (A0 A1 : Option Addr) (c0 c1 : Nat) (a b : List Int) (w : World) (hr0 : (Kd.int .u64).C w A0 a.length a) (hr1 : (Kd.int .u64).C w A1 b.length b) (ha : ∀ x ∈ a, 0 ≤ x ∧ x ≤ 18446744073709551615) (hb : ∀ x ∈ b, 0 ≤ x ∧ x ≤ 18446744073709551615) :
    Calls Try.prog 3 #[.slice A0 a.length c0, .slice A1 b.length c1] w fun e w' => e = .returned (.bool true) ∧ Below w.heap.size w w' := by
  have HR0 := Aside0.mk hr0
  have HR1 := Aside0.mk hr1
  have HA := Aside0.mk ha
  have HB := Aside0.mk hb
  clear hr0 hr1 ha hb
  by_cases hla : (50 : Int) < (a.length : Int)
  · have hda : decide ((50 : Int) < (a.length : Int)) = true := decide_eq_true hla
    have hda2 : decide (50 < a.length) = true := decide_eq_true (by omega)
    clear hla
    go_enter Try.func3, Try.ntmps3
    go_wp2_with (go_at_call 5; (with_reducible refine (awake_calls _).mono ?_); rintro e w1 ⟨rfl, hb⟩)
    go_ret
    exact ⟨rfl, hb⟩
  have hda : decide ((50 : Int) < (a.length : Int)) = false := decide_eq_false hla
  have hda2 : decide (50 < a.length) = false := decide_eq_false (by omega)
  have HLA := Aside0.mk (show a.length ≤ 50 by omega)
  clear hla
  by_cases hlb : (50 : Int) < (b.length : Int)
  · have hdb : decide ((50 : Int) < (b.length : Int)) = true := decide_eq_true hlb
    have hdb2 : decide (50 < b.length) = true := decide_eq_true (by omega)
    clear hlb
    go_enter Try.func3, Try.ntmps3
    go_wp2_with (go_at_call 5; (with_reducible refine (awake_calls _).mono ?_); rintro e w1 ⟨rfl, hb⟩)
    go_ret
    exact ⟨rfl, hb⟩
  have hdb : decide ((50 : Int) < (b.length : Int)) = false := decide_eq_false hlb
  have hdb2 : decide (50 < b.length) = false := decide_eq_false (by omega)
  have HLB := Aside0.mk (show b.length ≤ 50 by omega)
  clear hlb
  have HJ := Aside0.mk (J.new w)
  go_enter Try.func3, Try.ntmps3
  go_wp2_with fail
  clear hda hda2 hdb hdb2
  have HW := Aside0.mk (show J w ((w.alloc (.cells #[.slice none 0 0, .int .u64 0] 27)).alloc (.cells #[.slice none 0 0, .int .u64 0] 27)) (encS (a.take 0)) [] by rw [List.take_zero]; exact HJ.out)
  clear HJ
  go_loopg [29] a.length (fun kq v29 w' => ∃ i : Nat, v29 = .int .i64 (i : Int) ∧ i + kq = a.length ∧ Aside0 (J w w' (encS (a.take i)) []))
  case atStart => exact ⟨0, rfl, by omega, HW⟩
  case round =>
    clear HW
    obtain ⟨i, rfl, hk, HJ⟩ := hrel
    have hi50 : (i : Int) ≤ 50 := by have := HLA.out; omega
    have hi0 : 0 ≤ (i : Int) := by omega
    cases gk with
    | succ d =>
      have hil : i < a.length := by omega
      have hlt : (i : Int) < (a.length : Int) := by omega
      obtain ⟨ad, e, hx⟩ := Kd.at_int HR0.out (i : Int) hi0 hlt
      cases e
      rw [Int.toNat_natCast, rd_get hil] at hx
      replace hx := (HJ.out.out.cell (World.block_lt_of_cell? w _ hx)).trans hx
      have HCT := Aside0.mk (HJ.out.count1 (Nat.le_trans (encS_take_len HLA.out i) (by decide)) (HA.out _ (List.getElem_mem hil)))
      rw [← encS_succ hil] at HCT
      go_wp2_with (go_at_call 6; (with_reducible refine HCT.out.mono ?_); rintro e w2 ⟨rfl, hw⟩; have HJ2 := Aside0.mk hw; clear hw)
      go_roundg d
      case measure => omega
      case rel => exact ⟨i + 1, by go_num, by omega, HJ2⟩
    | zero =>
      have hia : i = a.length := by omega
      subst hia
      rw [List.take_length] at HJ
      have HLE := Aside0.mk (show (encS a).length ≤ 3500 by have := encS_take_len HLA.out a.length; rwa [List.take_length] at this)
      generalize hla : (encS a).length = la at *
      have HEA := Aside0.mk hla
      have HL1 := Aside0.mk (HJ.out.len1 (by rw [hla]; exact Nat.le_trans HLE.out (by decide)) (n := (la : Int)) (by rw [hla]))
      clear hla
      go_wp2_with (go_at_call 7; (with_reducible refine HL1.out.mono ?_); rintro e w2 ⟨rfl, m2, rfl⟩)
      have HW := Aside0.mk (show J w (wr.drewN m2) (encS a ++ encS (b.take 0)) (encS (b.take 0)) by rw [List.take_zero, encS_nil, List.append_nil]; exact HJ.out.drewN m2)
      clear HJ HL1
      go_loopg [39] b.length (fun kq v39 w' => ∃ i : Nat, v39 = .int .i64 (i : Int) ∧ i + kq = b.length ∧ Aside0 (J w w' (encS a ++ encS (b.take i)) (encS (b.take i))))
      case atStart => exact ⟨0, rfl, by omega, HW⟩
      case round =>
        clear HW
        obtain ⟨i, rfl, hk, HJ⟩ := hrel
        have hi50 : (i : Int) ≤ 50 := by have := HLB.out; omega
        have hi0 : 0 ≤ (i : Int) := by omega
        cases gk with
        | succ d =>
          have hil : i < b.length := by omega
          have hlt : (i : Int) < (b.length : Int) := by omega
          obtain ⟨ad, e, hx⟩ := Kd.at_int HR1.out (i : Int) hi0 hlt
          cases e
          rw [Int.toNat_natCast, rd_get hil] at hx
          replace hx := (HJ.out.out.cell (World.block_lt_of_cell? w _ hx)).trans hx
          have HCT := Aside0.mk (HJ.out.count1 (by rw [List.length_append, HEA.out]; have := encS_take_len HLB.out i; have := HLE.out; omega) (HB.out _ (List.getElem_mem hil)))
          rw [List.append_assoc, ← encS_succ hil] at HCT
          go_wp2_with (first | (go_at_call 6; (with_reducible refine HCT.out.mono ?_); rintro e w2 ⟨rfl, hw⟩; have HJ2 := Aside0.mk hw; clear hw) | (go_at_call 6; (with_reducible refine (HJ2.out.count2 (Nat.le_trans (encS_take_len HLB.out i) (by decide)) (HB.out _ (List.getElem_mem hil))).mono ?_); rintro e w3 ⟨rfl, hw⟩; rw [← encS_succ hil] at hw; have HJ3 := Aside0.mk hw; clear hw))
          go_roundg d
          case measure => omega
          case rel => exact ⟨i + 1, by go_num, by omega, HJ3⟩
        | zero =>
          have hib : i = b.length := by omega
          subst hib
          rw [List.take_length] at HJ
          have HLF := Aside0.mk (show (encS b).length ≤ 3500 by have := encS_take_len HLB.out b.length; rwa [List.take_length] at this)
          generalize hlb : (encS b).length = lb at *
          have HEB := Aside0.mk hlb
          have hla5 : (la : Int) ≤ 3500 := by have := HLE.out; omega
          have hlb5 : (lb : Int) ≤ 3500 := by have := HLF.out; omega
          have HL1 := Aside0.mk (HJ.out.len1 (by rw [List.length_append, HEA.out, hlb]; have := HLE.out; have := HLF.out; omega) (n := (la : Int) + (lb : Int)) (by rw [List.length_append, HEA.out, hlb]; omega))
          have HL2 := Aside0.mk (fun m => (HJ.out.drewN m).len2 (by rw [hlb]; have := HLF.out; omega) (n := (lb : Int)) (by rw [hlb]))
          have HBY := Aside0.mk (fun m => (HJ.out.drewN m).bytes1 (by rw [List.length_append, HEA.out, hlb]; have := HLE.out; have := HLF.out; omega))
          clear hlb
          go_wp2_with (first | (go_at_call 7; (with_reducible refine HL1.out.mono ?_); rintro e w2 ⟨rfl, m3, rfl⟩) | (go_at_call 7; (with_reducible refine (HL2.out _).mono ?_); rintro e w3 ⟨rfl, m4, rfl⟩) | (go_at_call 9; (with_reducible refine (HBY.out _).mono ?_); rintro e w4 ⟨u, xs, f, rfl, ho, hp, hb⟩; obtain ⟨A, c, hu⟩ := Kd.R_slice ho; subst hu; have HC4 := Aside0.mk (Kd.R_reads' ho).2.2; have HD4 := Aside0.mk (Kd.R_reads' ho).2.1; have HJ4 := Aside0.mk ((HJ.out.drewN _).below hb); have HP := Aside0.mk hp; clear ho hp hb) | (go_at_call 8; (with_reducible refine (bits_Read.calls _ _ xs xs 0 0 w4 w4 (Below.refl _ _) HC4.out HD4.out rfl).mono ?_); rintro e w5 ⟨gr, rfl, hI, hB, hB2⟩; have HI5 := Aside0.mk hI; have HB5 := Aside0.mk hB; clear hI hB hB2))
          clear HL1 HL2 HBY HJ
          obtain ⟨fn, rfl⟩ := Int.eq_ofNat_of_zero_le HP.out.2.1
          have hf7 : (fn : Int) ≤ 7 := HP.out.2.2.1
          have HXB := Aside0.mk HP.out.1
          have HBI := Aside0.mk (show bitsOf xs = encS a ++ (encS b ++ List.replicate fn false) by have h := HP.out.2.2.2; rw [Int.toNat_natCast, List.append_assoc] at h; exact h)
          have HXL := Aside0.mk (show 8 * xs.length = la + lb + fn by have h := pk_len HP.out; rw [List.length_append, HEA.out, HEB.out] at h; omega)
          have HX1 := Aside0.mk (show xs.length ≤ 1000 by have := HXL.out; omega)
          clear HP
          have HI := Aside0.mk (show IsS49 w4 w5 gr xs (((encS (a.take 0)).length : Nat) : Int) 0 from HI5.out)
          have HBR := HB5
          clear HI5 HB5
          go_loopg [57] a.length (fun kq v57 w' => ∃ i : Nat, v57 = .int .i64 (i : Int) ∧ i + kq = a.length ∧ Aside0 (IsS49 w4 w' gr xs (((encS (a.take i)).length : Nat) : Int) 0) ∧ Aside0 (Below w4.heap.size w4 w'))
          case atStart => exact ⟨0, rfl, by omega, HI, HBR⟩
          case round =>
            clear HI HBR
            obtain ⟨i, rfl, hk, HI, HBR⟩ := hrel
            have hi50 : (i : Int) ≤ 50 := by have := HLA.out; omega
            have hi0 : 0 ≤ (i : Int) := by omega
            have HB0 := Aside0.mk (HJ4.out.out.trans (HBR.out.mono HJ4.out.out.size))
            cases gk with
            | succ d =>
              have hil : i < a.length := by omega
              have hlt : (i : Int) < (a.length : Int) := by omega
              obtain ⟨ad, e, hx⟩ := Kd.at_int HR0.out (i : Int) hi0 hlt
              cases e
              rw [Int.toNat_natCast, rd_get hil] at hx
              replace hx := (HB0.out.cell (World.block_lt_of_cell? w _ hx)).trans hx
              have HCT := Aside0.mk (bits_Reader_Count.calls 300 gr xs _ 0 a[i] (((encS (a.take (i + 1))).length : Nat) : Int) 0 w4 _ HI.out HBR.out (by
                have hd : (bitsOf xs).drop (encS (a.take i)).length = encC a[i] ++ (encS (a.drop (i + 1)) ++ (encS b ++ List.replicate fn false)) := by
                  rw [HBI.out, encS_split hil, List.append_assoc, List.append_assoc, List.drop_left' rfl]
                rw [encS_succ hil, List.length_append]
                exact count_read HXB.out HX1.out (Nat.le_refl _) (HA.out _ (List.getElem_mem hil)) hd))
              go_wp2_with (go_at_call 10; (with_reducible refine HCT.out.mono ?_); rintro e w6 ⟨rfl, hI, hB, _⟩; have HI2 := Aside0.mk hI; have HB2 := Aside0.mk hB; clear hI hB)
              go_roundg d
              case measure => omega
              case rel => exact ⟨i + 1, by go_num, by omega, HI2, HB2⟩
            | zero =>
              have hia : i = a.length := by omega
              subst hia
              rw [List.take_length, HEA.out] at HI
              have HLF2 := Aside0.mk (bits_Reader_Left.calls gr xs (la : Int) 0 ((fn : Int) + (lb : Int)) (la : Int) 0 w4 _ HI.out HBR.out (by
                rw [left_val xs HX1.out la (by have := HXL.out; omega)]
                congr 2; have := HXL.out; omega))
              go_wp2_with (first | (go_at_call 11; (with_reducible refine HLF2.out.mono ?_); rintro e w6 ⟨rfl, hI, hB, _⟩; have HI2 := Aside0.mk hI; have HB2 := Aside0.mk hB; have HL2 := Aside0.mk ((HJ4.out.below hB).len2 (by rw [HEB.out]; have := HLF.out; omega) (n := (lb : Int)) (by rw [HEB.out])); clear hI hB) | (go_at_call 7; (with_reducible refine HL2.out.mono ?_); rintro e w7 ⟨rfl, m7, rfl⟩))
              have HI := Aside0.mk (show IsS49 w4 (w6.drewN m7) gr xs ((la + (encS (b.take 0)).length : Nat) : Int) 0 from IsS49.drewN HI2.out m7)
              have HBR := Aside0.mk (pw_below_drewN HB2.out m7)
              clear HI2 HB2 HL2 HLF2 HB0
              go_loopg [78] b.length (fun kq v78 w' => ∃ i : Nat, v78 = .int .i64 (i : Int) ∧ i + kq = b.length ∧ Aside0 (IsS49 w4 w' gr xs ((la + (encS (b.take i)).length : Nat) : Int) 0) ∧ Aside0 (Below w4.heap.size w4 w'))
              case atStart => exact ⟨0, rfl, by omega, HI, HBR⟩
              case round =>
                clear HI HBR
                obtain ⟨i, rfl, hk, HI, HBR⟩ := hrel
                have hi50 : (i : Int) ≤ 50 := by have := HLB.out; omega
                have hi0 : 0 ≤ (i : Int) := by omega
                have HB0 := Aside0.mk (HJ4.out.out.trans (HBR.out.mono HJ4.out.out.size))
                cases gk with
                | succ d =>
                  have hil : i < b.length := by omega
                  have hlt : (i : Int) < (b.length : Int) := by omega
                  obtain ⟨ad, e, hx⟩ := Kd.at_int HR1.out (i : Int) hi0 hlt
                  cases e
                  rw [Int.toNat_natCast, rd_get hil] at hx
                  replace hx := (HB0.out.cell (World.block_lt_of_cell? w _ hx)).trans hx
                  have HCT := Aside0.mk (bits_Reader_Count.calls 300 gr xs _ 0 b[i] ((la + (encS (b.take (i + 1))).length : Nat) : Int) 0 w4 _ HI.out HBR.out (by
                    have hd : (bitsOf xs).drop (la + (encS (b.take i)).length) = encC b[i] ++ (encS (b.drop (i + 1)) ++ List.replicate fn false) := by
                      rw [← List.drop_drop, HBI.out, List.drop_left' HEA.out, encS_split hil, List.append_assoc, List.append_assoc, List.drop_left' rfl]
                    rw [encS_succ hil, List.length_append, ← Nat.add_assoc]
                    exact count_read HXB.out HX1.out (Nat.le_refl _) (HB.out _ (List.getElem_mem hil)) hd))
                  go_wp2_with (go_at_call 10; (with_reducible refine HCT.out.mono ?_); rintro e w8 ⟨rfl, hI, hB, _⟩; have HI2 := Aside0.mk hI; have HB2 := Aside0.mk hB; clear hI hB)
                  go_roundg d
                  case measure => omega
                  case rel => exact ⟨i + 1, by go_num, by omega, HI2, HB2⟩
                | zero =>
                  have hib : i = b.length := by omega
                  subst hib
                  rw [List.take_length, HEB.out] at HI
                  have HED := Aside0.mk (end_read (k := 50) (n := la + lb) (f := fn) HXB.out HX1.out (Nat.le_refl _) (by omega) (by have := HXL.out; omega) (by rw [← List.drop_drop, HBI.out, List.drop_left' HEA.out, List.drop_left' HEB.out]))
                  go_wp2_with (first | (go_at_call 5; (with_reducible refine (awake_calls _).mono ?_); rintro e w9 ⟨rfl, hb⟩; have HIE := Aside0.mk (HI.out.below hb); have HBE := Aside0.mk (HBR.out.trans (hb.mono HBR.out.size)); clear hb) | (go_at_call 12; (with_reducible refine (bits_Reader_End.calls 50 gr xs _ 0 0 _ 0 w4 _ HIE.out HBE.out HED.out).mono ?_); rintro e w10 ⟨rfl, _, hB, _⟩; have HBF := Aside0.mk hB; clear hB))
                  go_ret
                  exact ⟨rfl, HJ4.out.out.trans (HBF.out.mono HJ4.out.out.size)⟩
end Go.Proofs.Ytiihngpenpalaaa.Wr
