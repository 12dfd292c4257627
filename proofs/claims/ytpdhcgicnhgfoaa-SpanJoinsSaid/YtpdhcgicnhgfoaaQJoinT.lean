/- SpanJoins answers what its printed rest says behind the two maps' loops: the head by hand (the two layouts, the map, the loop over it), the rest by a program. Its conditions: at most 200 bytes in each list, keys that come once, what the rest computes is true. -/
import Derived.Test.YtpdhcgicnhgfoaaQJoinD
import Derived.Test.YtpdhcgicnhgfoaaJMap
namespace Go.Proofs.Ytpdhcgicnhgfoaa.QSpanJoins
open Go.RowKit Go.Maps Go.Proofs.YtpdhcgicnhgfoaaW.PrintWords Go.Proofs.YtpdhcgicnhgfoaaW.PrintLast Go.Proofs.YtpdhcgicnhgfoaaW.PrintMore
attribute [local go_sem] max2_int min2_int max_two min_two max_three min_three max_four min_four   -- for this text's walks alone
set_option linter.unusedVariables false
set_option linter.unusedSimpArgs false
attribute [local go_sem high] eqA36
open Go.Proofs.Ytpdhcgicnhgfoaa.JMap
theorem law3 : Keyed Try.prog 3 := int_keyed Try.underlying3
theorem zero3 (w : World) : (zeroValue 3).run Try.prog w = .ok (.int .i64 0) w := by kernel_rfl
/-- the statement's map, in block m -/
def MapIs (w2 W : World) (n : Nat) (L1 L2 : List Int) : Prop := ∃ D, W.ownsMap Try.prog 3 (plainElem (H := Unit) Try.prog 3) w2.heap.size n D ∧ Holds D L1 L2 ∧ Below w2.heap.size w2 W
theorem below_then {w00 w w' : World} (h : Below w00.heap.size w00 w) (h2 : Below w.heap.size w w') : Below w00.heap.size w00 w' := h.trans (h2.mono h.size)
theorem len_step {W : World} {m n : Nat} {D : DataW Unit} {z : Int} (h : W.ownsMap Try.prog 3 (plainElem (H := Unit) Try.prog 3) m n D) (hz : ((Maps.size D : Nat) : Int) = z) (a : Act) {o : Oper} (ho : o.op = .call { callee := .builtin .len, args := #[.tmp 111], argTypes := #[41] }) (hm : a.eval (.tmp 111) = .map (some m)) :
    (execOp a.eval o).run Try.prog W = .ok (.value (.int .i64 z)) W := by
  rw [← hz]
  simp [execOp, ho, resolve, invoke, builtin, hm, h.len Try.underlying41 o.type, Result.andThen]
theorem wf_small {x : Int} (h : -1000000000 ≤ x ∧ x ≤ 1000000000) : (Lit.int .i64 x).wf = true := WalkArith.wf_i64 (by omega)
set_option maxHeartbeats 4000000 in
set_option maxRecDepth 100000 in
theorem joins_awake (k : Nat) (A0 A1 A4 : Option Addr) (c0 c1 c4 : Nat) (l0 l1 l4 : List Int) (a2 a3 : Int) (w : World) (hl : 200 < l0.length ∨ 200 < l1.length) (h : pluviallaw06_awake.f k = some true) :
    Calls Try.prog 4 #[.slice A0 l0.length c0, .slice A1 l1.length c1, .int .i16 a2, .int .i16 a3, .slice A4 l4.length c4] w fun e w' => e = .returned (.bool true) ∧ Below w.heap.size w w' := by
  by_cases c : (200 : Int) < (l0.length : Int)
  · have cb : decide ((200 : Int) < (l0.length : Int)) = true := decide_eq_true c
    have cb1 : decide (200 < l0.length) = true := decide_eq_true (by omega)
    clear c hl
    go_enter Try.func4, Try.ntmps4
    go_wp2_with (go_at_call 7; (with_reducible refine (pluviallaw06_awake.calls k true _ h).mono ?_); rintro e w1 ⟨rfl, hb⟩)
    go_ret
    exact ⟨rfl, hb⟩
  · have cb : decide ((200 : Int) < (l0.length : Int)) = false := decide_eq_false c
    have cb1 : decide (200 < l0.length) = false := decide_eq_false (by omega)
    have db : decide ((200 : Int) < (l1.length : Int)) = true := decide_eq_true (by omega)
    have db1 : decide (200 < l1.length) = true := decide_eq_true (by omega)
    clear c hl
    go_enter Try.func4, Try.ntmps4
    go_wp2_with (go_at_call 7; (with_reducible refine (pluviallaw06_awake.calls k true _ h).mono ?_); rintro e w1 ⟨rfl, hb⟩)
    go_ret
    exact ⟨rfl, hb⟩
set_option maxHeartbeats 16000000 in
set_option maxRecDepth 100000 in
theorem joins_calls (k : Nat) (A0 A1 A4 : Option Addr) (c0 c1 c4 : Nat) (l0 l1 l4 : List Int) (a2 a3 : Int) (l11 : List S36) (l12 : List Int) (l13 : List S36) (l14 : List Int) (r : Bool) (hr_ : Aside0 (r = true)) (w00 : World)
    (hr0 : Kd.C (Kd.int .u8) w00 A0 l0.length l0) (hc0 : l0.length ≤ c0) (hr1 : Kd.C (Kd.int .u8) w00 A1 l1.length l1) (hc1 : l1.length ≤ c1) (hr4 : Kd.C (Kd.int .u64) w00 A4 l4.length l4) (hc4 : l4.length ≤ c4)
    (hl0 : l0.length ≤ 200) (hl1 : l1.length ≤ 200) (hris1 : pluviallaw06_Rising.f k l0 a2 l4 = some (l11, l12)) (hris2 : pluviallaw06_Rising.f k l1 a3 l4 = some (l13, l14))
    (hw12 : ∀ x ∈ l12, -1000000000 ≤ x ∧ x ≤ 1000000000) (hw14 : ∀ x ∈ l14, -1000000000 ≤ x ∧ x ≤ 1000000000) (hm12 : l12.length ≤ 1000) (hm14 : l14.length ≤ 1000)
    (hids : ∀ p q j ids, span_Of.f k l11 = some p → span_Of.f k l13 = some q → span_Join.f k p.1 p.2 q.1 q.2 = some j → span_Indices.f k j.1 j.2 = some ids → ∀ x ∈ ids, -1000000000 ≤ x ∧ x ≤ 1000000000)
    (hn12 : ∀ i (h : i < l12.length), l12[i] ∉ l12.take i) (hn14 : ∀ i (h : i < l14.length), l14[i] ∉ l14.take i)
    (h : SJ.f k 0 0 0 0 0 0 0 0 0 0 false l11 l12 l13 l14 0 ((l12.length + (l14.filter fun z => !decide (z ∈ l12)).length : Nat) : Int) 0 0 0 (decide (∀ z ∈ l14, z ∈ l12)) = some r) :
    Calls Try.prog 4 #[.slice A0 l0.length c0, .slice A1 l1.length c1, .int .i16 a2, .int .i16 a3, .slice A4 l4.length c4] w00 fun e w' => e = .returned (.bool r) ∧ Below w00.heap.size w00 w' := by
 have HR0 := Aside0.mk hr0
 have HC0 := Aside0.mk hc0
 have HR1 := Aside0.mk hr1
 have HC1 := Aside0.mk hc1
 have HR4 := Aside0.mk hr4
 have HC4 := Aside0.mk hc4
 have HRIS1 := Aside0.mk hris1
 have HRIS2 := Aside0.mk hris2
 have HW12 := Aside0.mk hw12
 have HW14 := Aside0.mk hw14
 have HM12 := Aside0.mk hm12
 have HM14 := Aside0.mk hm14
 have HN12 := Aside0.mk hn12
 have HN14 := Aside0.mk hn14
 have HSJ := Aside0.mk h
 have HIDS := Aside0.mk hids
 have cb : decide ((200 : Int) < (l0.length : Int)) = false := decide_eq_false (by omega)
 have cb1 : decide (200 < l0.length) = false := decide_eq_false (by omega)
 have db : decide ((200 : Int) < (l1.length : Int)) = false := decide_eq_false (by omega)
 have db1 : decide (200 < l1.length) = false := decide_eq_false (by omega)
 clear hids hr0 hc0 hr1 hc1 hr4 hc4 hris1 hris2 hw12 hw14 hm12 hm14 hn12 hn14 h hl0 hl1
 have hmm := @run_makeMap Try.prog
 go_enter Try.func4, Try.ntmps4
 go_wp2_with (first | (go_at_call 8; (with_reducible refine (pluviallaw06_Rising.calls k _ _ l0 a2 _ _ l4 l11 l12 _ HR0.out HC0.out HR4.out HC4.out HRIS1.out).mono ?_); rintro e w1 ⟨v11, v12, rfl, ho1, ho2, hb⟩; obtain ⟨A11, c11, e11⟩ := Kd.R_slice ho1; subst e11; obtain ⟨A12, c12, e12⟩ := Kd.R_slice ho2; subst e12; have HX11 := Aside0.mk ho1; have HX12 := Aside0.mk ho2; have HB1 := Aside0.mk hb; have HR1b := Aside0.mk (Kd.C_below HR1.out hb); have HR4b := Aside0.mk (Kd.C_below HR4.out hb); clear ho1 ho2 hb) | (go_at_call 8; (with_reducible refine (pluviallaw06_Rising.calls k _ _ l1 a3 _ _ l4 l13 l14 _ HR1b.out HC1.out HR4b.out HC4.out HRIS2.out).mono ?_); rintro e w2 ⟨v13, v14, rfl, ho3, ho4, hb⟩; obtain ⟨A13, c13, e13⟩ := Kd.R_slice ho3; subst e13; obtain ⟨A14, c14, e14⟩ := Kd.R_slice ho4; subst e14; have HX13 := Aside0.mk ho3; have HX14 := Aside0.mk ho4; have HB2 := Aside0.mk (HB1.out.trans (hb.mono HB1.out.size)); have HY11 := Aside0.mk (Kd.R_below HX11.out hb); have HY12 := Aside0.mk (Kd.R_below HX12.out hb); clear ho3 ho4 hb))
 clear cb cb1 db db1 hmm
 have HZ11 := Aside0.mk (Kd.R_reads' HY11.out).2.2
 have HZ12 := Aside0.mk (Kd.R_reads' HY12.out).2.2
 have HZ13 := Aside0.mk (Kd.R_reads' HX13.out).2.2
 have HZ14 := Aside0.mk (Kd.R_reads' HX14.out).2.2
 have HD11 := Aside0.mk (Kd.R_reads' HY11.out).2.1
 have HD12 := Aside0.mk (Kd.R_reads' HY12.out).2.1
 have HD13 := Aside0.mk (Kd.R_reads' HX13.out).2.1
 have HD14 := Aside0.mk (Kd.R_reads' HX14.out).2.1
 clear HX11 HX12 HX13 HX14 HY11 HY12 HB1 HR1b HR4b
 have HM := Aside0.mk (show MapIs w2 (w2.alloc (.map #[] 0)) 0 (l12.take 0) [] from ⟨_, World.ownsMap_made _ _ _ _, by rw [List.take_zero]; exact holds_nil, (Below.refl _ _).alloc (Nat.le_refl _) _⟩)
 go_loopg [63] l12.length (fun kq v63 w' => ∃ i : Nat, v63 = .int .i64 (i : Int) ∧ i + kq = l12.length ∧ Aside0 (MapIs w2 w' i (l12.take i) []))
 case atStart => exact ⟨0, rfl, by omega, HM⟩
 case' round =>
  clear HM
  obtain ⟨i, rfl, hk, HM⟩ := hrel
  have hi1 : (i : Int) ≤ 1000 := by have := HM12.out; omega
  have hi0 : 0 ≤ (i : Int) := by omega
  obtain ⟨D, hown, hh, hB⟩ := HM.out
  have HOWN := Aside0.mk hown
  have HH := Aside0.mk hh
  have HB := Aside0.mk hB
  clear hown hh hB HM
  rcases gk with _ | d
  case succ =>
   have hil : i < l12.length := by omega
   have hlt : (i : Int) < (l12.length : Int) := by omega
   obtain ⟨ad, e, hx⟩ := Kd.at_int HZ12.out (i : Int) hi0 hlt
   cases e
   rw [Int.toNat_natCast, rd_get hil] at hx
   replace hx := (HB.out.cell (World.block_lt_of_cell? w2 _ hx)).trans hx
   have HKEY := Aside0.mk (keyOf_int_mk Try.underlying3 (wf_small (HW12.out _ (List.getElem_mem hil))))
   have HNX := Aside0.mk (HN12.out i hil)
   have HTK := Aside0.mk (show l12.take (i + 1) = l12.take i ++ [l12[i]] from List.take_succ_eq_append_getElem hil)
   generalize l12[i] = x at *
   go_wp2_with (first | (at_lookup; refine wpList_lookup_own_int _ rfl _ _ 41 rfl 3 3 .i64 law3 Try.underlying41 Try.underlying3 (zero3 _) w2.heap.size _ _ rfl HOWN.out _ _ rfl HKEY.out ?_; intro c hat hwc; obtain rfl : c = mapAt (l12.take i) [] x := look_is HH.out hat; have HWF := Aside0.mk (or_one_wf (l12.take i) [] x)) | (at_mapUpdate; refine wpList_mapUpdate_own _ rfl _ _ _ 41 rfl 3 3 law3 Try.underlying41 _ w2.heap.size _ _ rfl HOWN.out (by unfold maxLen; omega) _ _ _ rfl rfl HKEY.out _ [] (plainElem_int Try.underlying3 HWF.out) ?_; intro w3 hown1 hgrow1))
   go_roundg d
   case measure => omega
   case rel =>
    refine ⟨i + 1, by go_num, by omega, ⟨_, hown1, ?_, HB.out.grown hgrow1 HB.out.size (fun j hj => by cases hj; exact Nat.le_refl _)⟩⟩
    rw [HTK.out, or_one]; exact holds_one HH.out HNX.out
  case' zero =>
   have hia : i = l12.length := by omega
   subst hia
   rw [List.take_length] at HH
   have HM := Aside0.mk (show MapIs w2 wr (l12.length + 0) l12 (l14.take 0) from ⟨D, HOWN.out, by rw [List.take_zero]; exact HH.out, HB.out⟩)
   clear HOWN HH HB
   go_wp2_with fail
   go_loopg [74] l14.length (fun kq v74 w' => ∃ i : Nat, v74 = .int .i64 (i : Int) ∧ i + kq = l14.length ∧ Aside0 (MapIs w2 w' (l12.length + i) l12 (l14.take i)))
   case atStart => exact ⟨0, rfl, by omega, HM⟩
   case' round =>
    clear HM
    obtain ⟨i, rfl, hk, HM⟩ := hrel
    have hi1 : (i : Int) ≤ 1000 := by have := HM14.out; omega
    have hi0 : 0 ≤ (i : Int) := by omega
    have hml : l12.length ≤ 1000 := HM12.out
    obtain ⟨D, hown, hh, hB⟩ := HM.out
    have HOWN := Aside0.mk hown
    have HH := Aside0.mk hh
    have HB := Aside0.mk hB
    clear hown hh hB HM
    rcases gk with _ | d
    case succ =>
     have hil : i < l14.length := by omega
     have hlt : (i : Int) < (l14.length : Int) := by omega
     obtain ⟨ad, e, hx⟩ := Kd.at_int HZ14.out (i : Int) hi0 hlt
     cases e
     rw [Int.toNat_natCast, rd_get hil] at hx
     replace hx := (HB.out.cell (World.block_lt_of_cell? w2 _ hx)).trans hx
     have HKEY := Aside0.mk (keyOf_int_mk Try.underlying3 (wf_small (HW14.out _ (List.getElem_mem hil))))
     have HNX := Aside0.mk (HN14.out i hil)
     have HTK := Aside0.mk (show l14.take (i + 1) = l14.take i ++ [l14[i]] from List.take_succ_eq_append_getElem hil)
     generalize l14[i] = x at *
     go_wp2_with (first | (at_lookup; refine wpList_lookup_own_int _ rfl _ _ 41 rfl 3 3 .i64 law3 Try.underlying41 Try.underlying3 (zero3 _) w2.heap.size _ _ rfl HOWN.out _ _ rfl HKEY.out ?_; intro c hat hwc; obtain rfl : c = mapAt l12 (l14.take i) x := look_is HH.out hat; have HWF := Aside0.mk (or_two_wf l12 (l14.take i) x)) | (at_mapUpdate; refine wpList_mapUpdate_own _ rfl _ _ _ 41 rfl 3 3 law3 Try.underlying41 _ w2.heap.size _ _ rfl HOWN.out (by unfold maxLen; omega) _ _ _ rfl rfl HKEY.out _ [] (plainElem_int Try.underlying3 HWF.out) ?_; intro w3 hown1 hgrow1))
     go_roundg d
     case measure => omega
     case rel =>
      refine ⟨i + 1, by go_num, by omega, ⟨_, hown1, ?_, HB.out.grown hgrow1 HB.out.size (fun j hj => by cases hj; exact Nat.le_refl _)⟩⟩
      rw [HTK.out, or_two]; exact holds_two HH.out HNX.out
    case' zero =>
     have hib : i = l14.length := by omega
     subst hib
     rw [List.take_length] at HH
     go_wp2_with (at_range; refine wpList_range_own _ rfl _ 41 rfl 3 3 law3 Try.underlying41 _ w2.heap.size _ D rfl HOWN.out ?_; intro w4 hrg0 hg0 hs0)
     go_frame
     have HRG := Aside0.mk hrg0
     have HB4 := Aside0.mk (HB.out.grown hg0 HB.out.size (fun j hj => by cases hj))
     have HSR := Aside0.mk HB.out.size
     clear hrg0 hg0 hs0 HOWN HB
     go_loopg [20] (Maps.size D) (fun kq v20 w' => ∃ (left : Lit → Bool) (hs : Bool), v20 = .bool hs ∧ Aside0 (w'.ranges Try.prog 3 (plainElem (H := Unit) Try.prog 3) w2.heap.size wr.heap.size (l12.length + l14.length) D left kq) ∧ Aside0 (Seen l12 l14 left hs) ∧ Aside0 (Below w2.heap.size w2 w'))
     case atStart => exact ⟨_, true, rfl, HRG, ⟨seen_start HH.out⟩, HB4⟩
     case' round =>
      clear HRG HB4
      obtain ⟨left, a20, rfl, HRG, HSE, HB4⟩ := hrel
      go_wp2_with (at_next; refine wpList_next_ranges_ii _ rfl _ rfl 3 3 .i64 .i64 law3 Try.underlying3 Try.underlying3 w2.heap.size _ _ _ _ _ rfl HRG.out ?_ ?_)
      rotate_left
      ·intro x c w5 cnt1 hwx hwc hlx hat hrg1 hlt hg1 hs1 hen
       have hxin : x ∈ l12 ∨ x ∈ l14 := of_decide_eq_true ((HH.out.2.2.1 x).symm.trans (has_true_of_atKey hat))
       have hc : c = mapAt l12 l14 x := look_is HH.out (hat _)
       have HSE2 := Aside0.mk (seen_step HSE.out hxin hc)
       have HRG2 := Aside0.mk hrg1
       have HB5 := Aside0.mk (HB4.out.grown hg1 HB4.out.size (fun j hj => by injection hj with hj; rw [← hj]; exact HSR.out))
       clear hc hxin hat hrg1 hg1 hs1 hwx hwc hlx
       cases a20 with
       | true =>
        by_cases hc2 : c = 2
        ·have hb1 : (c == 2) = true := beq_iff_eq.2 hc2
         have hb2 : (c != 2) = false := by rw [hc2]; rfl
         rw [decide_eq_true hc2] at HSE2
         clear hc2
         go_wp2
         go_roundg cnt1
         case measure => exact hlt
         case rel => exact ⟨_, false, by first | rfl | simp [hb2], HRG2, HSE2, HB5⟩
        ·have hb1 : (c == 2) = false := beq_eq_false_iff_ne.2 hc2
         have hb2 : (c != 2) = true := bne_iff_ne.2 hc2
         rw [decide_eq_false hc2] at HSE2
         clear hc2
         go_wp2
         go_roundg cnt1
         case measure => exact hlt
         case rel => exact ⟨_, true, by first | rfl | simp [hb2], HRG2, HSE2, HB5⟩
       | false =>
        rw [Bool.false_and] at HSE2
        go_wp2
        go_roundg cnt1
        case measure => exact hlt
        case rel => exact ⟨_, false, rfl, HRG2, HSE2, HB5⟩
      intro _ hl0
      have hse := seen_end HSE.out hl0
      have HB00 := Aside0.mk (HB2.out.trans (HB4.out.mono HB2.out.size))
      have hr11 := Kd.C_below HZ11.out HB4.out
      have hr12 := Kd.C_below HZ12.out HB4.out
      have hr13 := Kd.C_below HZ13.out HB4.out
      have hr14 := Kd.C_below HZ14.out HB4.out
      have hc11 := HD11.out
      have hc12 := HD12.out
      have hc13 := HD13.out
      have hc14 := HD14.out
      have HMB := Aside0.mk (fun (W : World) (hW : Below wr.heap.size wr W) => HRG.out.owns.kept (grown_of_below hW none) (by simp))
      have h := HSJ.out
      rw [← hse] at h
      have HSZ := Aside0.mk (show ((Maps.size D : Nat) : Int) = _ by rw [HH.out.2.2.2])
      generalize ((l12.length + (l14.filter fun z => !decide (z ∈ l12)).length : Nat) : Int) = a16 at h HSZ
      clear hk hi1 hi0 hml
      clear hse hl0 HSE HRG HB4 HB2 HZ11 HZ12 HZ13 HZ14 HD11 HD12 HD13 HD14 HSJ HR0 HC0 HR1 HC1 HR4 HC4 HRIS1 HRIS2 HW12 HW14 HM12 HM14 HN12 HN14 HSR
      try clear hk
      try clear hi1
      try clear hi0
      generalize w2.heap.size = mB at *
      generalize l12.length + l14.length = nB at *
      rename World => w
      go_upto_region 21 with (fail)
 have hu31 := Try.underlying31
 have hu36 := Try.underlying36
 have HR11 := Aside0.mk hr11
 have HC11 := Aside0.mk hc11
 clear hr11 hc11
 have HR12 := Aside0.mk hr12
 have HC12 := Aside0.mk hc12
 clear hr12 hc12
 have HR13 := Aside0.mk hr13
 have HC13 := Aside0.mk hc13
 clear hr13 hc13
 have HR14 := Aside0.mk hr14
 have HC14 := Aside0.mk hc14
 clear hr14 hc14
 have HB := Aside0.mk (Below.refl w.heap.size w)
 have H : ((span_Of.f k l11).bind fun bt241 => ((span_Of.f k l13).bind fun bt245 => ((span_Join.f k bt241.1 bt241.2 bt245.1 bt245.2).bind fun bt251 => ((span_Indices.f k bt251.1 bt251.2).bind fun t256 => ((span_Has.f k bt241.1 bt241.2 bt245.1 bt245.2).bind fun t259 => (if (t259 != a20) = true then (SJ.j0 k l11 l12 l14 t256 true bt251.1 bt251.2) else (if (t256.length : Int) = a16 then ((span_Has.f k bt251.1 bt251.2 bt241.1 bt241.2).bind fun t260 => (if t260 = true then ((span_Has.f k bt251.1 bt251.2 bt245.1 bt245.2).bind fun t261 => (if t261 = true then ((span_Join.f k bt245.1 bt245.2 bt241.1 bt241.2).bind fun bt262 => ((span_Same.f k bt251.1 bt251.2 bt262.1 bt262.2).bind fun t266 => (SJ.j0 k l11 l12 l14 t256 (!t266) bt251.1 bt251.2))) else (SJ.j0 k l11 l12 l14 t256 true bt251.1 bt251.2))) else (SJ.j0 k l11 l12 l14 t256 true bt251.1 bt251.2))) else (SJ.j0 k l11 l12 l14 t256 true bt251.1 bt251.2)))))))) = some r := h
 clear h
 replace H := Option.bind_eq_some_iff.mp H
 obtain ⟨⟨t241, t242⟩, A220, H⟩ := H
 replace H : ((span_Of.f k l13).bind fun bt245 => ((span_Join.f k t241 t242 bt245.1 bt245.2).bind fun bt251 => ((span_Indices.f k bt251.1 bt251.2).bind fun t256 => ((span_Has.f k t241 t242 bt245.1 bt245.2).bind fun t259 => (if (t259 != a20) = true then (SJ.j0 k l11 l12 l14 t256 true bt251.1 bt251.2) else (if (t256.length : Int) = a16 then ((span_Has.f k bt251.1 bt251.2 t241 t242).bind fun t260 => (if t260 = true then ((span_Has.f k bt251.1 bt251.2 bt245.1 bt245.2).bind fun t261 => (if t261 = true then ((span_Join.f k bt245.1 bt245.2 t241 t242).bind fun bt262 => ((span_Same.f k bt251.1 bt251.2 bt262.1 bt262.2).bind fun t266 => (SJ.j0 k l11 l12 l14 t256 (!t266) bt251.1 bt251.2))) else (SJ.j0 k l11 l12 l14 t256 true bt251.1 bt251.2))) else (SJ.j0 k l11 l12 l14 t256 true bt251.1 bt251.2))) else (SJ.j0 k l11 l12 l14 t256 true bt251.1 bt251.2))))))) = some r := H
 have A22 := Aside0.mk A220
 clear A220
 replace H := Option.bind_eq_some_iff.mp H
 obtain ⟨⟨t245, t246⟩, A230, H⟩ := H
 replace H : ((span_Join.f k t241 t242 t245 t246).bind fun bt251 => ((span_Indices.f k bt251.1 bt251.2).bind fun t256 => ((span_Has.f k t241 t242 t245 t246).bind fun t259 => (if (t259 != a20) = true then (SJ.j0 k l11 l12 l14 t256 true bt251.1 bt251.2) else (if (t256.length : Int) = a16 then ((span_Has.f k bt251.1 bt251.2 t241 t242).bind fun t260 => (if t260 = true then ((span_Has.f k bt251.1 bt251.2 t245 t246).bind fun t261 => (if t261 = true then ((span_Join.f k t245 t246 t241 t242).bind fun bt262 => ((span_Same.f k bt251.1 bt251.2 bt262.1 bt262.2).bind fun t266 => (SJ.j0 k l11 l12 l14 t256 (!t266) bt251.1 bt251.2))) else (SJ.j0 k l11 l12 l14 t256 true bt251.1 bt251.2))) else (SJ.j0 k l11 l12 l14 t256 true bt251.1 bt251.2))) else (SJ.j0 k l11 l12 l14 t256 true bt251.1 bt251.2)))))) = some r := H
 have A23 := Aside0.mk A230
 clear A230
 replace H := Option.bind_eq_some_iff.mp H
 obtain ⟨⟨t251, t252⟩, A240, H⟩ := H
 replace H : ((span_Indices.f k t251 t252).bind fun t256 => ((span_Has.f k t241 t242 t245 t246).bind fun t259 => (if (t259 != a20) = true then (SJ.j0 k l11 l12 l14 t256 true t251 t252) else (if (t256.length : Int) = a16 then ((span_Has.f k t251 t252 t241 t242).bind fun t260 => (if t260 = true then ((span_Has.f k t251 t252 t245 t246).bind fun t261 => (if t261 = true then ((span_Join.f k t245 t246 t241 t242).bind fun bt262 => ((span_Same.f k t251 t252 bt262.1 bt262.2).bind fun t266 => (SJ.j0 k l11 l12 l14 t256 (!t266) t251 t252))) else (SJ.j0 k l11 l12 l14 t256 true t251 t252))) else (SJ.j0 k l11 l12 l14 t256 true t251 t252))) else (SJ.j0 k l11 l12 l14 t256 true t251 t252))))) = some r := H
 have A24 := Aside0.mk A240
 clear A240
 replace H := Option.bind_eq_some_iff.mp H
 obtain ⟨t256, A250, H⟩ := H
 replace H : ((span_Has.f k t241 t242 t245 t246).bind fun t259 => (if (t259 != a20) = true then (SJ.j0 k l11 l12 l14 t256 true t251 t252) else (if (t256.length : Int) = a16 then ((span_Has.f k t251 t252 t241 t242).bind fun t260 => (if t260 = true then ((span_Has.f k t251 t252 t245 t246).bind fun t261 => (if t261 = true then ((span_Join.f k t245 t246 t241 t242).bind fun bt262 => ((span_Same.f k t251 t252 bt262.1 bt262.2).bind fun t266 => (SJ.j0 k l11 l12 l14 t256 (!t266) t251 t252))) else (SJ.j0 k l11 l12 l14 t256 true t251 t252))) else (SJ.j0 k l11 l12 l14 t256 true t251 t252))) else (SJ.j0 k l11 l12 l14 t256 true t251 t252)))) = some r := H
 have A25 := Aside0.mk A250
 clear A250
 have HC26 := Aside0.mk H
 clear H
 have HWK := Aside0.mk (HIDS.out _ _ _ _ A22.out A23.out A24.out A25.out)
 go_upto_region 24 with (first | ((with_reducible refine gate_callee (f := 9) rfl ?_); refine goesL_ (some 95) rfl rfl Try.func9 (by kernel_rfl) rfl #[.slice A11 l11.length c11] rfl (by (try simp only [List.map_toArray, List.map_cons, List.map_nil]); first | done | rfl | (simp only [List.length_drop, List.length_take]; rfl)) ?_; (with_reducible refine (span_Of.calls k _ _ l11 t241 t242 _ ?side1 ?side2 A22.out).mono ?_); (case side1 => repeat (first | exact HR11.out | (with_reducible refine Kd.C_alloc ?_ _) | (with_reducible refine Kd.C_drewN ?_ _) | (with_reducible refine Kd.C_drew ?_))); (case side2 => exact HC11.out); rintro e w27 ⟨v243, rfl, ho0, hb⟩; refine ⟨_, rfl, ?_⟩; have n0_ := Aside0.mk (Kd.R_lower ho0 (below_size (by repeat (first | (with_reducible first | exact HB.out | apply below_alloc | apply pw_below_drewN | apply below_drew1) | exact HB.out)))); have n1_ := Aside0.mk (below_step (by repeat (first | (with_reducible first | exact HB.out | apply below_alloc | apply pw_below_drewN | apply below_drew1) | exact HB.out)) hb); clear HB; have HO244 := n0_; have HB := n1_; clear n0_ n1_; (try clear hb); (try clear hb2); (try clear hk); (try clear hi); (try clear ho0)) | ((with_reducible refine gate_callee (f := 9) rfl ?_); refine goesL_ (some 97) rfl rfl Try.func9 (by kernel_rfl) rfl #[.slice A13 l13.length c13] rfl (by (try simp only [List.map_toArray, List.map_cons, List.map_nil]); first | done | rfl | (simp only [List.length_drop, List.length_take]; rfl)) ?_; (with_reducible refine (span_Of.calls k _ _ l13 t245 t246 _ ?side1 ?side2 A23.out).mono ?_); (case side1 => repeat (first | exact (Kd.C_below HR13.out HB.out) | (with_reducible refine Kd.C_alloc ?_ _) | (with_reducible refine Kd.C_drewN ?_ _) | (with_reducible refine Kd.C_drew ?_))); (case side2 => exact HC13.out); rintro e w28 ⟨v247, rfl, ho0, hb⟩; refine ⟨_, rfl, ?_⟩; have n0_ := Aside0.mk (Kd.R_elder' (by (with_reducible repeat (first | apply Kd.R_alloc | apply Kd.R_drewN | apply Kd.R_drew)); exact HO244.out) (Kd.R_base ho0) hb); have n1_ := Aside0.mk (Kd.R_lower (Kd.R_new' ho0 (Kd.R_lt (by (with_reducible repeat (first | apply Kd.R_alloc | apply Kd.R_drewN | apply Kd.R_drew)); exact HO244.out))) (below_size (by repeat (first | (with_reducible first | exact HB.out | apply below_alloc | apply pw_below_drewN | apply below_drew1) | exact HB.out)))); have n2_ := Aside0.mk (below_step (by repeat (first | (with_reducible first | exact HB.out | apply below_alloc | apply pw_below_drewN | apply below_drew1) | exact HB.out)) hb); clear HO244; clear HB; have HO244 := n0_; have HO248 := n1_; have HB := n2_; clear n0_ n1_ n2_; (try clear hb); (try clear hb2); (try clear hk); (try clear hi); (try clear ho0)) | ((with_reducible refine gate_dst (N := 23) rfl ?_); (try (refine gate_guard (by rfl) ?_; dsimp only)); refine box_event ?hg (N := 23) ?hd (cs := #[.int .i64 0, .slice none 0 0]) (t := 31) ?hr ?_; (case hd => rfl); (case hg => rfl); (case hr => first | (go_simp; done) | (go_simp; rfl)); intro gb249 hg w29 hbox hb; have n0_ := Aside0.mk (Kd.R_below (by (with_reducible repeat (first | apply Kd.R_alloc | apply Kd.R_drewN | apply Kd.R_drew)); exact HO244.out) hb); have n1_ := Aside0.mk (Kd.R_below (by (with_reducible repeat (first | apply Kd.R_alloc | apply Kd.R_drewN | apply Kd.R_drew)); exact HO248.out) hb); have n2_ := Aside0.mk (below_step (by repeat (first | (with_reducible first | exact HB.out | apply below_alloc | apply pw_below_drewN | apply below_drew1) | exact HB.out)) hb); have n3_ := Aside0.mk (hbox); have n4_ := Aside0.mk ((by rw [hg]; exact (below_size (by repeat (first | (with_reducible first | exact HB.out | apply below_alloc | apply pw_below_drewN | apply below_drew1) | exact HB.out))) : w.heap.size ≤ gb249)); have n5_ := Aside0.mk ((by rw [hg]; exact (below_size (by repeat (first | (with_reducible first | exact HB.out | apply below_alloc | apply pw_below_drewN | apply below_drew1) | exact HB.out))) : w.heap.size ≤ gb249)); clear HO244; clear HO248; clear HB; have HO244 := n0_; have HO248 := n1_; have HB := n2_; have BK249 := n3_; have GW249 := n4_; have GE249 := n5_; clear n0_ n1_ n2_ n3_ n4_ n5_; clear hb hbox hg) | ((with_reducible refine gate_dst (N := 24) rfl ?_); (try (refine gate_guard (by rfl) ?_; dsimp only)); refine box_event ?hg (N := 24) ?hd (cs := #[.int .i64 0, .slice none 0 0]) (t := 31) ?hr ?_; (case hd => rfl); (case hg => rfl); (case hr => first | (go_simp; done) | (go_simp; rfl)); intro gb250 hg w30 hbox hb; have n0_ := Aside0.mk (Kd.R_below (by (with_reducible repeat (first | apply Kd.R_alloc | apply Kd.R_drewN | apply Kd.R_drew)); exact HO244.out) hb); have n1_ := Aside0.mk (Kd.R_below (by (with_reducible repeat (first | apply Kd.R_alloc | apply Kd.R_drewN | apply Kd.R_drew)); exact HO248.out) hb); have n2_ := Aside0.mk (blk_below (g := gb249) (o := .cells #[.int .i64 0, .slice none 0 0] 31 (0, 0)) (by (with_reducible repeat (first | refine blk_drewN ?_ _ | refine blk_drew ?_ | refine blk_alloc ?_ _)); exact BK249.out) hb); have n3_ := Aside0.mk (below_step (by repeat (first | (with_reducible first | exact HB.out | apply below_alloc | apply pw_below_drewN | apply below_drew1 | refine below_set ?_ GE249.out) | exact HB.out)) hb); have n4_ := Aside0.mk (hbox); have n5_ := Aside0.mk ((by rw [hg]; exact (below_size (by repeat (first | (with_reducible first | exact HB.out | apply below_alloc | apply pw_below_drewN | apply below_drew1 | refine below_set ?_ GE249.out) | exact HB.out))) : w.heap.size ≤ gb250)); have n6_ := Aside0.mk ((by rw [hg]; exact (below_size (by repeat (first | (with_reducible first | exact HB.out | apply below_alloc | apply pw_below_drewN | apply below_drew1 | refine below_set ?_ GE249.out) | exact HB.out))) : w.heap.size ≤ gb250)); have n7_ := Aside0.mk ((by rw [hg]; exact Nat.ne_of_lt (blk_lt (g := gb249) (o := .cells #[.int .i64 0, .slice none 0 0] 31 (0, 0)) (by (with_reducible repeat (first | refine blk_drewN ?_ _ | refine blk_drew ?_ | refine blk_alloc ?_ _)); exact BK249.out)) : gb249 ≠ gb250)); have n8_ := Aside0.mk ((by rw [hg]; exact Nat.ne_of_gt (blk_lt (g := gb249) (o := .cells #[.int .i64 0, .slice none 0 0] 31 (0, 0)) (by (with_reducible repeat (first | refine blk_drewN ?_ _ | refine blk_drew ?_ | refine blk_alloc ?_ _)); exact BK249.out)) : gb250 ≠ gb249)); clear HO244; clear HO248; clear BK249; clear HB; have HO244 := n0_; have HO248 := n1_; have BK249 := n2_; have HB := n3_; have BK250 := n4_; have GW250 := n5_; have GE250 := n6_; have NB249_250 := n7_; have NB250_249 := n8_; clear n0_ n1_ n2_ n3_ n4_ n5_ n6_ n7_ n8_; clear hb hbox hg; have hnb31 := NB249_250.out; have hnc31 := NB250_249.out; have hcz32_0 : w30.cell? ⟨gb249, 0, none⟩ = some (.int .i64 0) := (blk_cell BK249.out 0).trans rfl; have hcz32_1 : w30.cell? ⟨gb249, 1, none⟩ = some (.slice none 0 0) := (blk_cell BK249.out 1).trans rfl; have hfz32_0 := blk_frozen BK249.out 0; have hfz32_1 := blk_frozen BK249.out 1; have hsz32_1 : ∀ A_ B_ : Value, ((w30.setCell ⟨gb249, 0, none⟩ A_).setCell ⟨gb249, 1, none⟩ B_).cell? ⟨gb249, 1, none⟩ = some B_ := fun A_ B_ => World.cell?_setCell_same _ _ _ ((World.cell?_setCell_other _ _ _ _ (by simp)).trans hcz32_1); obtain ⟨Ao33, co33, eo33⟩ := Kd.R_slice HO244.out; subst eo33; have hcz34_0 : w30.cell? ⟨gb250, 0, none⟩ = some (.int .i64 0) := (blk_cell BK250.out 0).trans rfl; have hcz34_1 : w30.cell? ⟨gb250, 1, none⟩ = some (.slice none 0 0) := (blk_cell BK250.out 1).trans rfl; have hfz34_0 := blk_frozen BK250.out 0; have hfz34_1 := blk_frozen BK250.out 1; have hsz34_1 : ∀ A_ B_ : Value, ((w30.setCell ⟨gb250, 0, none⟩ A_).setCell ⟨gb250, 1, none⟩ B_).cell? ⟨gb250, 1, none⟩ = some B_ := fun A_ B_ => World.cell?_setCell_same _ _ _ ((World.cell?_setCell_other _ _ _ _ (by simp)).trans hcz34_1); obtain ⟨Ao35, co35, eo35⟩ := Kd.R_slice HO248.out; subst eo35) | ((with_reducible refine gate_callee (f := 11) rfl ?_); refine goesL_ (some 100) rfl rfl Try.func11 (by kernel_rfl) rfl #[.agg #[.int .i64 t241, .slice Ao33 t242.length co33], .agg #[.int .i64 t245, .slice Ao35 t246.length co35]] rfl (by (try simp only [List.map_toArray, List.map_cons, List.map_nil]); first | done | rfl | (simp only [List.length_drop, List.length_take]; rfl)) ?_; (with_reducible refine (span_Join.calls k t241 _ _ t242 t245 _ _ t246 t251 t252 _ ?side1 ?side2 ?side3 ?side4 A24.out).mono ?_); (case side1 => refine (Kd.R_reads' (e := 38) (base := w.heap.size) (ok := fun k_ => (True ∧ some k_ ≠ (.slice Ao35 t246.length co35 : Value).ownBlock)) (n := t242.length) (c := co33) ?_).2.2; exact (by (with_reducible repeat (first | apply Kd.R_alloc | apply Kd.R_drewN | apply Kd.R_drew)); exact (Kd.R_mono (Kd.R_mono (Kd.R_far (p := ⟨gb250, 1, none⟩) (Kd.R_far (p := ⟨gb250, 0, none⟩) (Kd.R_far (p := ⟨gb249, 1, none⟩) (Kd.R_far (p := ⟨gb249, 0, none⟩) (Kd.R_types (Kd.R_types HO244.out BK249.out (by decide)) BK250.out (by decide)) (fun _ hk => hk.1.2) (.int .i64 t241)) (fun _ hk => hk.1.2) (.slice Ao33 t242.length co33)) (fun _ hk => hk.2) (.int .i64 t245)) (fun _ hk => hk.2) (.slice Ao35 t246.length co35)) (fun _ h_ => h_.1)) (fun _ h_ => h_.1)))); (case side2 => exact (Kd.R_reads' HO244.out).2.1); (case side3 => refine (Kd.R_reads' (e := 38) (base := w.heap.size) (ok := fun k_ => (True ∧ some k_ ≠ (.slice Ao33 t242.length co33 : Value).ownBlock)) (n := t246.length) (c := co35) ?_).2.2; exact (by (with_reducible repeat (first | apply Kd.R_alloc | apply Kd.R_drewN | apply Kd.R_drew)); exact (Kd.R_mono (Kd.R_mono (Kd.R_far (p := ⟨gb250, 1, none⟩) (Kd.R_far (p := ⟨gb250, 0, none⟩) (Kd.R_far (p := ⟨gb249, 1, none⟩) (Kd.R_far (p := ⟨gb249, 0, none⟩) (Kd.R_types (Kd.R_types HO248.out BK249.out (by decide)) BK250.out (by decide)) (fun _ hk => hk.1.2) (.int .i64 t241)) (fun _ hk => hk.1.2) (.slice Ao33 t242.length co33)) (fun _ hk => hk.2) (.int .i64 t245)) (fun _ hk => hk.2) (.slice Ao35 t246.length co35)) (fun _ h_ => h_.1)) (fun _ h_ => h_.1)))); (case side4 => exact (Kd.R_reads' HO248.out).2.1); rintro e w36 ⟨v253, rfl, ho0, hb⟩; refine ⟨_, rfl, ?_⟩; have n0_ := Aside0.mk (Kd.R_elder' (by (with_reducible repeat (first | apply Kd.R_alloc | apply Kd.R_drewN | apply Kd.R_drew)); exact (Kd.R_mono (Kd.R_mono (Kd.R_far (p := ⟨gb250, 1, none⟩) (Kd.R_far (p := ⟨gb250, 0, none⟩) (Kd.R_far (p := ⟨gb249, 1, none⟩) (Kd.R_far (p := ⟨gb249, 0, none⟩) (Kd.R_types (Kd.R_types HO244.out BK249.out (by decide)) BK250.out (by decide)) (fun _ hk => hk.1.2) (.int .i64 t241)) (fun _ hk => hk.1.2) (.slice Ao33 t242.length co33)) (fun _ hk => hk.2) (.int .i64 t245)) (fun _ hk => hk.2) (.slice Ao35 t246.length co35)) (fun _ h_ => h_.1)) (fun _ h_ => h_.1))) (Kd.R_base ho0) hb); have n1_ := Aside0.mk (Kd.R_elder' (by (with_reducible repeat (first | apply Kd.R_alloc | apply Kd.R_drewN | apply Kd.R_drew)); exact (Kd.R_mono (Kd.R_mono (Kd.R_far (p := ⟨gb250, 1, none⟩) (Kd.R_far (p := ⟨gb250, 0, none⟩) (Kd.R_far (p := ⟨gb249, 1, none⟩) (Kd.R_far (p := ⟨gb249, 0, none⟩) (Kd.R_types (Kd.R_types HO248.out BK249.out (by decide)) BK250.out (by decide)) (fun _ hk => hk.1.2) (.int .i64 t241)) (fun _ hk => hk.1.2) (.slice Ao33 t242.length co33)) (fun _ hk => hk.2) (.int .i64 t245)) (fun _ hk => hk.2) (.slice Ao35 t246.length co35)) (fun _ h_ => h_.1)) (fun _ h_ => h_.1))) (Kd.R_base ho0) hb); have n2_ := Aside0.mk (Kd.R_lower (Kd.R_new' (Kd.R_new' ho0 (Kd.R_lt (by (with_reducible repeat (first | apply Kd.R_alloc | apply Kd.R_drewN | apply Kd.R_drew)); exact (Kd.R_mono (Kd.R_mono (Kd.R_far (p := ⟨gb250, 1, none⟩) (Kd.R_far (p := ⟨gb250, 0, none⟩) (Kd.R_far (p := ⟨gb249, 1, none⟩) (Kd.R_far (p := ⟨gb249, 0, none⟩) (Kd.R_types (Kd.R_types HO244.out BK249.out (by decide)) BK250.out (by decide)) (fun _ hk => hk.1.2) (.int .i64 t241)) (fun _ hk => hk.1.2) (.slice Ao33 t242.length co33)) (fun _ hk => hk.2) (.int .i64 t245)) (fun _ hk => hk.2) (.slice Ao35 t246.length co35)) (fun _ h_ => h_.1)) (fun _ h_ => h_.1))))) (Kd.R_lt (by (with_reducible repeat (first | apply Kd.R_alloc | apply Kd.R_drewN | apply Kd.R_drew)); exact (Kd.R_mono (Kd.R_mono (Kd.R_far (p := ⟨gb250, 1, none⟩) (Kd.R_far (p := ⟨gb250, 0, none⟩) (Kd.R_far (p := ⟨gb249, 1, none⟩) (Kd.R_far (p := ⟨gb249, 0, none⟩) (Kd.R_types (Kd.R_types HO248.out BK249.out (by decide)) BK250.out (by decide)) (fun _ hk => hk.1.2) (.int .i64 t241)) (fun _ hk => hk.1.2) (.slice Ao33 t242.length co33)) (fun _ hk => hk.2) (.int .i64 t245)) (fun _ hk => hk.2) (.slice Ao35 t246.length co35)) (fun _ h_ => h_.1)) (fun _ h_ => h_.1))))) (below_size (by repeat (first | (with_reducible first | exact HB.out | apply below_alloc | apply pw_below_drewN | apply below_drew1 | refine below_set ?_ GE249.out | refine below_set ?_ GE250.out) | exact HB.out)))); have n3_ := Aside0.mk (blk_below (g := gb249) (o := .cells #[.int .i64 t241, .slice Ao33 t242.length co33] 31 (0, 0)) (by (with_reducible repeat (first | refine blk_drewN ?_ _ | refine blk_drew ?_ | refine blk_alloc ?_ _)); refine blk_far ?_ NB249_250.out _; (with_reducible repeat (first | refine blk_drewN ?_ _ | refine blk_drew ?_ | refine blk_alloc ?_ _)); refine blk_far ?_ NB249_250.out _; (with_reducible repeat (first | refine blk_drewN ?_ _ | refine blk_drew ?_ | refine blk_alloc ?_ _)); refine blk_put (cs := #[.int .i64 t241, .slice none 0 0]) ?_ 1 _ rfl; (with_reducible repeat (first | refine blk_drewN ?_ _ | refine blk_drew ?_ | refine blk_alloc ?_ _)); refine blk_put (cs := #[.int .i64 0, .slice none 0 0]) ?_ 0 _ rfl; (with_reducible repeat (first | refine blk_drewN ?_ _ | refine blk_drew ?_ | refine blk_alloc ?_ _)); exact BK249.out) hb); have n4_ := Aside0.mk (blk_below (g := gb250) (o := .cells #[.int .i64 t245, .slice Ao35 t246.length co35] 31 (0, 0)) (by (with_reducible repeat (first | refine blk_drewN ?_ _ | refine blk_drew ?_ | refine blk_alloc ?_ _)); refine blk_put (cs := #[.int .i64 t245, .slice none 0 0]) ?_ 1 _ rfl; (with_reducible repeat (first | refine blk_drewN ?_ _ | refine blk_drew ?_ | refine blk_alloc ?_ _)); refine blk_put (cs := #[.int .i64 0, .slice none 0 0]) ?_ 0 _ rfl; (with_reducible repeat (first | refine blk_drewN ?_ _ | refine blk_drew ?_ | refine blk_alloc ?_ _)); refine blk_far ?_ NB250_249.out _; (with_reducible repeat (first | refine blk_drewN ?_ _ | refine blk_drew ?_ | refine blk_alloc ?_ _)); refine blk_far ?_ NB250_249.out _; (with_reducible repeat (first | refine blk_drewN ?_ _ | refine blk_drew ?_ | refine blk_alloc ?_ _)); exact BK250.out) hb); have n5_ := Aside0.mk (below_step (by repeat (first | (with_reducible first | exact HB.out | apply below_alloc | apply pw_below_drewN | apply below_drew1 | refine below_set ?_ GE249.out | refine below_set ?_ GE250.out) | exact HB.out)) hb); clear HO244; clear HO248; clear BK249; clear BK250; clear HB; have HO244 := n0_; have HO248 := n1_; have HO254 := n2_; have BK249 := n3_; have BK250 := n4_; have HB := n5_; clear n0_ n1_ n2_ n3_ n4_ n5_; (try clear hb); (try clear hb2); (try clear hk); (try clear hi); (try clear ho0)) | ((with_reducible refine gate_dst (N := 25) rfl ?_); (try (refine gate_guard (by rfl) ?_; dsimp only)); refine box_event ?hg (N := 25) ?hd (cs := #[.int .i64 0, .slice none 0 0]) (t := 31) ?hr ?_; (case hd => rfl); (case hg => rfl); (case hr => first | (go_simp; done) | (go_simp; rfl)); intro gb255 hg w37 hbox hb; have n0_ := Aside0.mk (Kd.R_below (by (with_reducible repeat (first | apply Kd.R_alloc | apply Kd.R_drewN | apply Kd.R_drew)); exact HO244.out) hb); have n1_ := Aside0.mk (Kd.R_below (by (with_reducible repeat (first | apply Kd.R_alloc | apply Kd.R_drewN | apply Kd.R_drew)); exact HO248.out) hb); have n2_ := Aside0.mk (Kd.R_below (by (with_reducible repeat (first | apply Kd.R_alloc | apply Kd.R_drewN | apply Kd.R_drew)); exact HO254.out) hb); have n3_ := Aside0.mk (blk_below (g := gb249) (o := .cells #[.int .i64 t241, .slice Ao33 t242.length co33] 31 (0, 0)) (by (with_reducible repeat (first | refine blk_drewN ?_ _ | refine blk_drew ?_ | refine blk_alloc ?_ _)); exact BK249.out) hb); have n4_ := Aside0.mk (blk_below (g := gb250) (o := .cells #[.int .i64 t245, .slice Ao35 t246.length co35] 31 (0, 0)) (by (with_reducible repeat (first | refine blk_drewN ?_ _ | refine blk_drew ?_ | refine blk_alloc ?_ _)); exact BK250.out) hb); have n5_ := Aside0.mk (below_step (by repeat (first | (with_reducible first | exact HB.out | apply below_alloc | apply pw_below_drewN | apply below_drew1 | refine below_set ?_ GE249.out | refine below_set ?_ GE250.out) | exact HB.out)) hb); have n6_ := Aside0.mk (hbox); have n7_ := Aside0.mk ((by rw [hg]; exact (below_size (by repeat (first | (with_reducible first | exact HB.out | apply below_alloc | apply pw_below_drewN | apply below_drew1 | refine below_set ?_ GE249.out | refine below_set ?_ GE250.out) | exact HB.out))) : w.heap.size ≤ gb255)); have n8_ := Aside0.mk ((by rw [hg]; exact (below_size (by repeat (first | (with_reducible first | exact HB.out | apply below_alloc | apply pw_below_drewN | apply below_drew1 | refine below_set ?_ GE249.out | refine below_set ?_ GE250.out) | exact HB.out))) : w.heap.size ≤ gb255)); have n9_ := Aside0.mk ((by rw [hg]; exact Nat.ne_of_lt (blk_lt (g := gb249) (o := .cells #[.int .i64 t241, .slice Ao33 t242.length co33] 31 (0, 0)) (by (with_reducible repeat (first | refine blk_drewN ?_ _ | refine blk_drew ?_ | refine blk_alloc ?_ _)); exact BK249.out)) : gb249 ≠ gb255)); have n10_ := Aside0.mk ((by rw [hg]; exact Nat.ne_of_gt (blk_lt (g := gb249) (o := .cells #[.int .i64 t241, .slice Ao33 t242.length co33] 31 (0, 0)) (by (with_reducible repeat (first | refine blk_drewN ?_ _ | refine blk_drew ?_ | refine blk_alloc ?_ _)); exact BK249.out)) : gb255 ≠ gb249)); have n11_ := Aside0.mk ((by rw [hg]; exact Nat.ne_of_lt (blk_lt (g := gb250) (o := .cells #[.int .i64 t245, .slice Ao35 t246.length co35] 31 (0, 0)) (by (with_reducible repeat (first | refine blk_drewN ?_ _ | refine blk_drew ?_ | refine blk_alloc ?_ _)); exact BK250.out)) : gb250 ≠ gb255)); have n12_ := Aside0.mk ((by rw [hg]; exact Nat.ne_of_gt (blk_lt (g := gb250) (o := .cells #[.int .i64 t245, .slice Ao35 t246.length co35] 31 (0, 0)) (by (with_reducible repeat (first | refine blk_drewN ?_ _ | refine blk_drew ?_ | refine blk_alloc ?_ _)); exact BK250.out)) : gb255 ≠ gb250)); clear HO244; clear HO248; clear HO254; clear BK249; clear BK250; clear HB; have HO244 := n0_; have HO248 := n1_; have HO254 := n2_; have BK249 := n3_; have BK250 := n4_; have HB := n5_; have BK255 := n6_; have GW255 := n7_; have GE255 := n8_; have NB249_255 := n9_; have NB255_249 := n10_; have NB250_255 := n11_; have NB255_250 := n12_; clear n0_ n1_ n2_ n3_ n4_ n5_ n6_ n7_ n8_ n9_ n10_ n11_ n12_; clear hb hbox hg; have hnb38 := NB255_249.out; have hnc38 := NB249_255.out; have hnb39 := NB255_250.out; have hnc39 := NB250_255.out; have hcz40_0 : w37.cell? ⟨gb255, 0, none⟩ = some (.int .i64 0) := (blk_cell BK255.out 0).trans rfl; have hcz40_1 : w37.cell? ⟨gb255, 1, none⟩ = some (.slice none 0 0) := (blk_cell BK255.out 1).trans rfl; have hfz40_0 := blk_frozen BK255.out 0; have hfz40_1 := blk_frozen BK255.out 1; have hsz40_1 : ∀ A_ B_ : Value, ((w37.setCell ⟨gb255, 0, none⟩ A_).setCell ⟨gb255, 1, none⟩ B_).cell? ⟨gb255, 1, none⟩ = some B_ := fun A_ B_ => World.cell?_setCell_same _ _ _ ((World.cell?_setCell_other _ _ _ _ (by simp)).trans hcz40_1); obtain ⟨Ao41, co41, eo41⟩ := Kd.R_slice HO254.out; subst eo41) | ((with_reducible refine gate_callee (f := 10) rfl ?_); refine goesL_ (some 102) rfl rfl Try.func10 (by kernel_rfl) rfl #[.agg #[.int .i64 t251, .slice Ao41 t252.length co41]] rfl (by (try simp only [List.map_toArray, List.map_cons, List.map_nil]); first | done | rfl | (simp only [List.length_drop, List.length_take]; rfl)) ?_; (with_reducible refine (span_Indices.calls k t251 _ _ t252 t256 _ ?side1 ?side2 A25.out).mono ?_); (case side1 => refine (Kd.R_reads' (e := 38) (base := w.heap.size) (ok := fun k_ => ((True ∧ some k_ ≠ (.slice Ao33 t242.length co33 : Value).ownBlock) ∧ some k_ ≠ (.slice Ao35 t246.length co35 : Value).ownBlock)) (n := t252.length) (c := co41) ?_).2.2; exact (by (with_reducible repeat (first | apply Kd.R_alloc | apply Kd.R_drewN | apply Kd.R_drew)); exact (Kd.R_mono (Kd.R_far (p := ⟨gb255, 1, none⟩) (Kd.R_far (p := ⟨gb255, 0, none⟩) (Kd.R_types HO254.out BK255.out (by decide)) (fun _ hk => hk.2) (.int .i64 t251)) (fun _ hk => hk.2) (.slice Ao41 t252.length co41)) (fun _ h_ => h_.1)))); (case side2 => exact (Kd.R_reads' HO254.out).2.1); rintro e w42 ⟨v257, rfl, ho0, hb⟩; refine ⟨_, rfl, ?_⟩; have n0_ := Aside0.mk (Kd.R_below (by (with_reducible repeat (first | apply Kd.R_alloc | apply Kd.R_drewN | apply Kd.R_drew)); exact (Kd.R_mono (Kd.R_far (p := ⟨gb255, 1, none⟩) (Kd.R_far (p := ⟨gb255, 0, none⟩) (Kd.R_types HO244.out BK255.out (by decide)) (fun _ hk => hk.2) (.int .i64 t251)) (fun _ hk => hk.2) (.slice Ao41 t252.length co41)) (fun _ h_ => h_.1))) hb); have n1_ := Aside0.mk (Kd.R_below (by (with_reducible repeat (first | apply Kd.R_alloc | apply Kd.R_drewN | apply Kd.R_drew)); exact (Kd.R_mono (Kd.R_far (p := ⟨gb255, 1, none⟩) (Kd.R_far (p := ⟨gb255, 0, none⟩) (Kd.R_types HO248.out BK255.out (by decide)) (fun _ hk => hk.2) (.int .i64 t251)) (fun _ hk => hk.2) (.slice Ao41 t252.length co41)) (fun _ h_ => h_.1))) hb); have n2_ := Aside0.mk (Kd.R_below (by (with_reducible repeat (first | apply Kd.R_alloc | apply Kd.R_drewN | apply Kd.R_drew)); exact (Kd.R_mono (Kd.R_far (p := ⟨gb255, 1, none⟩) (Kd.R_far (p := ⟨gb255, 0, none⟩) (Kd.R_types HO254.out BK255.out (by decide)) (fun _ hk => hk.2) (.int .i64 t251)) (fun _ hk => hk.2) (.slice Ao41 t252.length co41)) (fun _ h_ => h_.1))) hb); have n3_ := Aside0.mk (Kd.R_lower ho0 (below_size (by repeat (first | (with_reducible first | exact HB.out | apply below_alloc | apply pw_below_drewN | apply below_drew1 | refine below_set ?_ GE249.out | refine below_set ?_ GE250.out | refine below_set ?_ GE255.out) | exact HB.out)))); have n4_ := Aside0.mk (blk_below (g := gb249) (o := .cells #[.int .i64 t241, .slice Ao33 t242.length co33] 31 (0, 0)) (by (with_reducible repeat (first | refine blk_drewN ?_ _ | refine blk_drew ?_ | refine blk_alloc ?_ _)); refine blk_far ?_ NB249_255.out _; (with_reducible repeat (first | refine blk_drewN ?_ _ | refine blk_drew ?_ | refine blk_alloc ?_ _)); refine blk_far ?_ NB249_255.out _; (with_reducible repeat (first | refine blk_drewN ?_ _ | refine blk_drew ?_ | refine blk_alloc ?_ _)); exact BK249.out) hb); have n5_ := Aside0.mk (blk_below (g := gb250) (o := .cells #[.int .i64 t245, .slice Ao35 t246.length co35] 31 (0, 0)) (by (with_reducible repeat (first | refine blk_drewN ?_ _ | refine blk_drew ?_ | refine blk_alloc ?_ _)); refine blk_far ?_ NB250_255.out _; (with_reducible repeat (first | refine blk_drewN ?_ _ | refine blk_drew ?_ | refine blk_alloc ?_ _)); refine blk_far ?_ NB250_255.out _; (with_reducible repeat (first | refine blk_drewN ?_ _ | refine blk_drew ?_ | refine blk_alloc ?_ _)); exact BK250.out) hb); have n6_ := Aside0.mk (blk_below (g := gb255) (o := .cells #[.int .i64 t251, .slice Ao41 t252.length co41] 31 (0, 0)) (by (with_reducible repeat (first | refine blk_drewN ?_ _ | refine blk_drew ?_ | refine blk_alloc ?_ _)); refine blk_put (cs := #[.int .i64 t251, .slice none 0 0]) ?_ 1 _ rfl; (with_reducible repeat (first | refine blk_drewN ?_ _ | refine blk_drew ?_ | refine blk_alloc ?_ _)); refine blk_put (cs := #[.int .i64 0, .slice none 0 0]) ?_ 0 _ rfl; (with_reducible repeat (first | refine blk_drewN ?_ _ | refine blk_drew ?_ | refine blk_alloc ?_ _)); exact BK255.out) hb); have n7_ := Aside0.mk (below_step (by repeat (first | (with_reducible first | exact HB.out | apply below_alloc | apply pw_below_drewN | apply below_drew1 | refine below_set ?_ GE249.out | refine below_set ?_ GE250.out | refine below_set ?_ GE255.out) | exact HB.out)) hb); clear HO244; clear HO248; clear HO254; clear BK249; clear BK250; clear BK255; clear HB; have HO244 := n0_; have HO248 := n1_; have HO254 := n2_; have HO258 := n3_; have BK249 := n4_; have BK250 := n5_; have BK255 := n6_; have HB := n7_; clear n0_ n1_ n2_ n3_ n4_ n5_ n6_ n7_; (try clear hb); (try clear hb2); (try clear hk); (try clear hi); (try clear ho0)))
 (try simp only [Act.put, List.setIfInBounds_toArray, List.set_cons_zero, List.set_cons_succ])
 go_cut [134] (fun v134 wc => ∃ (kq : Nat) (x134_25 : Bool), v134 = .bool x134_25 ∧ Aside0 (SJ.j0 kq l11 l12 l14 t256 x134_25 t251 t252 = some r) ∧ Aside0 (kq ≤ k) ∧ Aside0 (Kd.R (Kd.int .i64) 3 wc w.heap.size (fun _ => True) v257 t256) ∧ Aside0 (Kd.R k38 38 wc w.heap.size (fun k_ => some k_ ≠ ((.slice Ao35 t246.length co35) : Value).ownBlock ∧ some k_ ≠ ((.slice Ao41 t252.length co41) : Value).ownBlock) (.slice Ao33 t242.length co33) t242) ∧ Aside0 (Kd.R k38 38 wc w.heap.size (fun k_ => some k_ ≠ ((.slice Ao33 t242.length co33) : Value).ownBlock ∧ some k_ ≠ ((.slice Ao41 t252.length co41) : Value).ownBlock) (.slice Ao35 t246.length co35) t246) ∧ Aside0 (Kd.R k38 38 wc w.heap.size (fun k_ => some k_ ≠ ((.slice Ao33 t242.length co33) : Value).ownBlock ∧ some k_ ≠ ((.slice Ao35 t246.length co35) : Value).ownBlock) (.slice Ao41 t252.length co41) t252) ∧ Aside0 (wc.heap[gb249]? = some (.cells #[.int .i64 t241, (.slice Ao33 t242.length co33)] 31 (0, 0))) ∧ Aside0 (wc.heap[gb250]? = some (.cells #[.int .i64 t245, (.slice Ao35 t246.length co35)] 31 (0, 0))) ∧ Aside0 (wc.heap[gb255]? = some (.cells #[.int .i64 t251, (.slice Ao41 t252.length co41)] 31 (0, 0))) ∧ Aside0 (Below w.heap.size w wc))
 case first =>
  have H := HC26.out
  clear HC26
  replace H := Option.bind_eq_some_iff.mp H
  obtain ⟨t259, A430, H⟩ := H
  replace H : (if (t259 != a20) = true then (SJ.j0 k l11 l12 l14 t256 true t251 t252) else (if (t256.length : Int) = a16 then ((span_Has.f k t251 t252 t241 t242).bind fun t260 => (if t260 = true then ((span_Has.f k t251 t252 t245 t246).bind fun t261 => (if t261 = true then ((span_Join.f k t245 t246 t241 t242).bind fun bt262 => ((span_Same.f k t251 t252 bt262.1 bt262.2).bind fun t266 => (SJ.j0 k l11 l12 l14 t256 (!t266) t251 t252))) else (SJ.j0 k l11 l12 l14 t256 true t251 t252))) else (SJ.j0 k l11 l12 l14 t256 true t251 t252))) else (SJ.j0 k l11 l12 l14 t256 true t251 t252))) = some r := H
  have A43 := Aside0.mk A430
  clear A430
  by_cases c44 : (t259 != a20) = true
  ·rw [if_pos c44] at H
   have c44b0 : (t259 != a20) = true := c44
   (try (have c44b1 : decide (t259 = a20) = false := by simpa using c44))
   (try (have c44b2 : (t259 == a20) = false := by simpa using c44))
   (try (have c44b3 : ¬ (t259 = a20) := by simpa using c44))
   clear c44
   (first | rw [c44b0] | (simp only [i64_w, i32_w]; rw [c44b0]) | skip)
   have H' := Aside0.mk H
   clear H
   try go_wp2
   have n0_ := Aside0.mk (Kd.R_drew HO244.out)
   have n1_ := Aside0.mk (Kd.R_drew HO248.out)
   have n2_ := Aside0.mk (Kd.R_drew HO254.out)
   have n3_ := Aside0.mk (Kd.R_drew HO258.out)
   have n4_ := Aside0.mk (blk_drew BK249.out)
   have n5_ := Aside0.mk (blk_drew BK250.out)
   have n6_ := Aside0.mk (blk_drew BK255.out)
   have n7_ := Aside0.mk (below_drew1 HB.out)
   clear HO244
   clear HO248
   clear HO254
   clear HO258
   clear BK249
   clear BK250
   clear BK255
   clear HB
   have HO244 := n0_
   have HO248 := n1_
   have HO254 := n2_
   have HO258 := n3_
   have BK249 := n4_
   have BK250 := n5_
   have BK255 := n6_
   have HB := n7_
   clear n0_ n1_ n2_ n3_ n4_ n5_ n6_ n7_
   refine start_ (n := 32) (S := fun w' => w'.cell? ⟨gb249, 0, none⟩ = some (.int .i64 t241) ∧ w'.cell? ⟨gb249, 1, none⟩ = some (.slice Ao33 t242.length co33) ∧ w'.cell? ⟨gb250, 0, none⟩ = some (.int .i64 t245) ∧ w'.cell? ⟨gb250, 1, none⟩ = some (.slice Ao35 t246.length co35) ∧ w'.ownsMap Try.prog 3 (plainElem (H := Unit) Try.prog 3) mB nB D) (ds := []) #[false, false, false, false, false, false, false, false, false, false, false, false, false, false, false, false, false, false, false, false, false, false, false, false, false, false, false, false, false, false, false, false] (by kernel_rfl) rfl rfl ⟨(blk_cell BK249.out 0).trans rfl, (blk_cell BK249.out 1).trans rfl, (blk_cell BK250.out 0).trans rfl, (blk_cell BK250.out 1).trans rfl, HMB.out _ HB.out⟩ (fun hHeld => ?_); refine with_tabW SJ.tab24 SJ.bits24 (fun HT_ HW_ => ?_)
   generalize w42.drew = w45 at HO244 HO248 HO254 HO258 BK249 BK250 BK255 HB hHeld ⊢
   refine pure_ (i := 3) (N := some 106) (v := ?_) (a' := ?_) #[false, false, false, true, false, false, false, false, false, false, false, false, false, false, false, false, false, false, false, false, false, false, false, false, false, false, false, false, false, false, false, false] rfl rfl (any_of HT_.out (by kernel_rfl)) (fun _ _ _ h => h) (Or.inl ⟨by rfl, ?_⟩) ?_ ?_
   rotate_left
   ·intro w'
    go_simp
    with_reducible rfl
   rotate_left
   ·simp only [Act.put, List.setIfInBounds_toArray, List.set_cons_zero, List.set_cons_succ, i64_w, i32_w]
    rfl
   refine take_ (i := 0) (N := some 103) (v := ?_) (a' := ?_) #[true, false, false, true, false, false, false, false, false, false, false, false, false, false, false, false, false, false, false, false, false, false, false, false, false, false, false, false, false, false, false, false] rfl rfl (take_ofW HT_.out HW_.out (by kernel_rfl)) (fun _ _ _ h => h) (Or.inl ⟨by rfl, ?_⟩) hHeld ?_ ?_
   rotate_left
   ·rintro w' ⟨s0, s1, s2, s3, sM⟩
    go_simp
    with_reducible rfl
   rotate_left
   ·simp only [Act.put, List.setIfInBounds_toArray, List.set_cons_zero, List.set_cons_succ, i64_w, i32_w]
    rfl
   refine take_ (i := 1) (N := some 104) (v := ?_) (a' := ?_) #[true, true, false, true, false, false, false, false, false, false, false, false, false, false, false, false, false, false, false, false, false, false, false, false, false, false, false, false, false, false, false, false] rfl rfl (take_ofW HT_.out HW_.out (by kernel_rfl)) (fun _ _ _ h => h) (Or.inl ⟨by rfl, ?_⟩) hHeld ?_ ?_
   rotate_left
   ·rintro w' ⟨s0, s1, s2, s3, sM⟩
    go_simp
    with_reducible rfl
   rotate_left
   ·simp only [Act.put, List.setIfInBounds_toArray, List.set_cons_zero, List.set_cons_succ, i64_w, i32_w]
    rfl
   refine one_ (i := 2) (N := some 105) #[true, true, true, true, false, false, false, false, false, false, false, false, false, false, false, false, false, false, false, false, false, false, false, false, false, false, false, false, false, false, false, false] rfl rfl (one_of HT_.out (by kernel_rfl)) (by decide) (fun K hK => ?_)
   refine goes_ Try.func12 (by kernel_rfl) rfl #[.agg #[.int .i64 t241, .slice Ao33 t242.length co33], .agg #[.int .i64 t245, .slice Ao35 t246.length co35]] (by rfl) rfl rfl (by (try simp only [List.map_toArray, List.map_cons, List.map_nil]); first | done | rfl | (simp only [List.length_drop, List.length_take]; rfl)) ?_
   with_reducible refine (span_Has.calls k t241 _ _ t242 t245 _ _ t246 t259 _ ?side1 ?side2 ?side3 ?side4 A43.out).mono ?_
   (case side1 => repeat (first | exact (Kd.R_reads' HO244.out).2.2 | (with_reducible refine Kd.C_alloc ?_ _) | (with_reducible refine Kd.C_drewN ?_ _) | (with_reducible refine Kd.C_drew ?_)))
   (case side2 => exact (Kd.R_reads' HO244.out).2.1)
   (case side3 => repeat (first | exact (Kd.R_reads' HO248.out).2.2 | (with_reducible refine Kd.C_alloc ?_ _) | (with_reducible refine Kd.C_drewN ?_ _) | (with_reducible refine Kd.C_drew ?_)))
   (case side4 => exact (Kd.R_reads' HO248.out).2.1)
   rintro e w46 ⟨rfl, hb⟩
   refine ⟨_, rfl, ?_⟩
   have n0_ := Aside0.mk (Kd.R_below (by (with_reducible repeat (first | apply Kd.R_alloc | apply Kd.R_drewN | apply Kd.R_drew)); exact HO244.out) hb)
   have n1_ := Aside0.mk (Kd.R_below (by (with_reducible repeat (first | apply Kd.R_alloc | apply Kd.R_drewN | apply Kd.R_drew)); exact HO248.out) hb)
   have n2_ := Aside0.mk (Kd.R_below (by (with_reducible repeat (first | apply Kd.R_alloc | apply Kd.R_drewN | apply Kd.R_drew)); exact HO254.out) hb)
   have n3_ := Aside0.mk (Kd.R_below (by (with_reducible repeat (first | apply Kd.R_alloc | apply Kd.R_drewN | apply Kd.R_drew)); exact HO258.out) hb)
   have n4_ := Aside0.mk (blk_below (g := gb249) (o := .cells #[.int .i64 t241, .slice Ao33 t242.length co33] 31 (0, 0)) (by (with_reducible repeat (first | refine blk_drewN ?_ _ | refine blk_drew ?_ | refine blk_alloc ?_ _)); exact BK249.out) hb)
   have n5_ := Aside0.mk (blk_below (g := gb250) (o := .cells #[.int .i64 t245, .slice Ao35 t246.length co35] 31 (0, 0)) (by (with_reducible repeat (first | refine blk_drewN ?_ _ | refine blk_drew ?_ | refine blk_alloc ?_ _)); exact BK250.out) hb)
   have n6_ := Aside0.mk (blk_below (g := gb255) (o := .cells #[.int .i64 t251, .slice Ao41 t252.length co41] 31 (0, 0)) (by (with_reducible repeat (first | refine blk_drewN ?_ _ | refine blk_drew ?_ | refine blk_alloc ?_ _)); exact BK255.out) hb)
   have n7_ := Aside0.mk (below_step (by repeat (first | (with_reducible first | exact HB.out | apply below_alloc | apply pw_below_drewN | apply below_drew1 | refine below_set ?_ GE249.out | refine below_set ?_ GE250.out | refine below_set ?_ GE255.out) | exact HB.out)) hb)
   clear HO244
   clear HO248
   clear HO254
   clear HO258
   clear BK249
   clear BK250
   clear BK255
   clear HB
   have HO244 := n0_
   have HO248 := n1_
   have HO254 := n2_
   have HO258 := n3_
   have BK249 := n4_
   have BK250 := n5_
   have BK255 := n6_
   have HB := n7_
   clear n0_ n1_ n2_ n3_ n4_ n5_ n6_ n7_
   (try clear hb)
   (try clear hb2)
   (try clear hk)
   (try clear hi)
   refine hK.out _ _ ⟨(blk_cell BK249.out 0).trans rfl, (blk_cell BK249.out 1).trans rfl, (blk_cell BK250.out 0).trans rfl, (blk_cell BK250.out 1).trans rfl, HMB.out _ HB.out⟩ (fun hHeld => ?_)
   clear hK K
   refine norm_ (a' := ?_) ?_ ?_
   rotate_left
   ·show Act.put _ (some 105) _ = _
    simp only [Act.put, List.setIfInBounds_toArray, List.set_cons_zero, List.set_cons_succ, i64_w, i32_w]
    rfl
   refine pure_ (i := 4) (N := some 107) (v := ?_) (a' := ?_) #[true, true, true, true, true, false, false, false, false, false, false, false, false, false, false, false, false, false, false, false, false, false, false, false, false, false, false, false, false, false, false, false] rfl rfl (any_of HT_.out (by kernel_rfl)) (fun _ _ _ h => h) (Or.inl ⟨by rfl, ?_⟩) ?_ ?_
   rotate_left
   ·intro w'
    go_simp
    with_reducible rfl
   rotate_left
   ·simp only [Act.put, List.setIfInBounds_toArray, List.set_cons_zero, List.set_cons_succ, i64_w, i32_w]
    rfl
   refine pure_ (i := 5) (N := some 108) (v := ?_) (a' := ?_) #[true, true, true, true, true, true, false, false, false, false, false, false, false, false, false, false, false, false, false, false, false, false, false, false, false, false, false, false, false, false, false, false] rfl rfl (any_of HT_.out (by kernel_rfl)) (fun _ _ _ h => h) (Or.inl ⟨by rfl, ?_⟩) ?_ ?_
   rotate_left
   ·intro w'
    go_simp
    with_reducible rfl
   rotate_left
   ·simp only [Act.put, List.setIfInBounds_toArray, List.set_cons_zero, List.set_cons_succ, i64_w, i32_w]
    rfl
   refine pure_ (i := 6) (N := some 109) (v := undef) (a' := ?_) #[true, true, true, true, true, true, true, false, false, false, false, false, false, false, false, false, false, false, false, false, false, false, false, false, false, false, false, false, false, false, false, false] rfl rfl (any_of HT_.out (by kernel_rfl)) (fun _ _ _ h => h) (Or.inr ⟨by rfl, rfl⟩) ?_ ?_
   rotate_left
   ·simp only [Act.put, List.setIfInBounds_toArray, List.set_cons_zero, List.set_cons_succ, i64_w, i32_w]
    rfl
   refine pure_ (i := 7) (N := some 110) (v := undef) (a' := ?_) #[true, true, true, true, true, true, true, true, false, false, false, false, false, false, false, false, false, false, false, false, false, false, false, false, false, false, false, false, false, false, false, false] rfl rfl (any_of HT_.out (by kernel_rfl)) (fun _ _ _ h => h) (Or.inr ⟨by rfl, rfl⟩) ?_ ?_
   rotate_left
   ·simp only [Act.put, List.setIfInBounds_toArray, List.set_cons_zero, List.set_cons_succ, i64_w, i32_w]
    rfl
   refine pure_ (i := 8) (N := some 111) (v := undef) (a' := ?_) #[true, true, true, true, true, true, true, true, true, false, false, false, false, false, false, false, false, false, false, false, false, false, false, false, false, false, false, false, false, false, false, false] rfl rfl (any_of HT_.out (by kernel_rfl)) (fun _ _ _ h => h) (Or.inr ⟨by rfl, rfl⟩) ?_ ?_
   rotate_left
   ·simp only [Act.put, List.setIfInBounds_toArray, List.set_cons_zero, List.set_cons_succ, i64_w, i32_w]
    rfl
   refine pure_ (i := 9) (N := some 112) (v := undef) (a' := ?_) #[true, true, true, true, true, true, true, true, true, true, false, false, false, false, false, false, false, false, false, false, false, false, false, false, false, false, false, false, false, false, false, false] rfl rfl (any_of HT_.out (by kernel_rfl)) (fun _ _ _ h => h) (Or.inr ⟨by rfl, rfl⟩) ?_ ?_
   rotate_left
   ·simp only [Act.put, List.setIfInBounds_toArray, List.set_cons_zero, List.set_cons_succ, i64_w, i32_w]
    rfl
   refine pure_ (i := 10) (N := some 113) (v := undef) (a' := ?_) #[true, true, true, true, true, true, true, true, true, true, true, false, false, false, false, false, false, false, false, false, false, false, false, false, false, false, false, false, false, false, false, false] rfl rfl (any_of HT_.out (by kernel_rfl)) (fun _ _ _ h => h) (Or.inr ⟨by rfl, rfl⟩) ?_ ?_
   rotate_left
   ·simp only [Act.put, List.setIfInBounds_toArray, List.set_cons_zero, List.set_cons_succ, i64_w, i32_w]
    rfl
   refine pure_ (i := 11) (N := some 114) (v := ?_) (a' := ?_) #[true, true, true, true, true, true, true, true, true, true, true, true, false, false, false, false, false, false, false, false, false, false, false, false, false, false, false, false, false, false, false, false] rfl rfl (any_of HT_.out (by kernel_rfl)) (fun _ _ _ h => h) (Or.inl ⟨by rfl, ?_⟩) ?_ ?_
   rotate_left
   ·intro w'
    go_simp
    with_reducible rfl
   rotate_left
   ·simp only [Act.put, List.setIfInBounds_toArray, List.set_cons_zero, List.set_cons_succ, i64_w, i32_w]
    rfl
   refine pure_ (i := 12) (N := some 115) (v := ?_) (a' := ?_) #[true, true, true, true, true, true, true, true, true, true, true, true, true, false, false, false, false, false, false, false, false, false, false, false, false, false, false, false, false, false, false, false] rfl rfl (any_of HT_.out (by kernel_rfl)) (fun _ _ _ h => h) (Or.inl ⟨by rfl, ?_⟩) ?_ ?_
   rotate_left
   ·intro w'
    go_simp
    with_reducible rfl
   rotate_left
   ·simp only [Act.put, List.setIfInBounds_toArray, List.set_cons_zero, List.set_cons_succ, i64_w, i32_w]
    rfl
   refine pure_ (i := 13) (N := some 116) (v := undef) (a' := ?_) #[true, true, true, true, true, true, true, true, true, true, true, true, true, true, false, false, false, false, false, false, false, false, false, false, false, false, false, false, false, false, false, false] rfl rfl (any_of HT_.out (by kernel_rfl)) (fun _ _ _ h => h) (Or.inr ⟨by rfl, rfl⟩) ?_ ?_
   rotate_left
   ·simp only [Act.put, List.setIfInBounds_toArray, List.set_cons_zero, List.set_cons_succ, i64_w, i32_w]
    rfl
   refine pure_ (i := 14) (N := some 117) (v := undef) (a' := ?_) #[true, true, true, true, true, true, true, true, true, true, true, true, true, true, true, false, false, false, false, false, false, false, false, false, false, false, false, false, false, false, false, false] rfl rfl (any_of HT_.out (by kernel_rfl)) (fun _ _ _ h => h) (Or.inr ⟨by rfl, rfl⟩) ?_ ?_
   rotate_left
   ·simp only [Act.put, List.setIfInBounds_toArray, List.set_cons_zero, List.set_cons_succ, i64_w, i32_w]
    rfl
   refine pure_ (i := 15) (N := some 118) (v := undef) (a' := ?_) #[true, true, true, true, true, true, true, true, true, true, true, true, true, true, true, true, false, false, false, false, false, false, false, false, false, false, false, false, false, false, false, false] rfl rfl (any_of HT_.out (by kernel_rfl)) (fun _ _ _ h => h) (Or.inr ⟨by rfl, rfl⟩) ?_ ?_
   rotate_left
   ·simp only [Act.put, List.setIfInBounds_toArray, List.set_cons_zero, List.set_cons_succ, i64_w, i32_w]
    rfl
   refine pure_ (i := 16) (N := some 119) (v := undef) (a' := ?_) #[true, true, true, true, true, true, true, true, true, true, true, true, true, true, true, true, true, false, false, false, false, false, false, false, false, false, false, false, false, false, false, false] rfl rfl (any_of HT_.out (by kernel_rfl)) (fun _ _ _ h => h) (Or.inr ⟨by rfl, rfl⟩) ?_ ?_
   rotate_left
   ·simp only [Act.put, List.setIfInBounds_toArray, List.set_cons_zero, List.set_cons_succ, i64_w, i32_w]
    rfl
   refine pure_ (i := 17) (N := some 120) (v := ?_) (a' := ?_) #[true, true, true, true, true, true, true, true, true, true, true, true, true, true, true, true, true, true, false, false, false, false, false, false, false, false, false, false, false, false, false, false] rfl rfl (any_of HT_.out (by kernel_rfl)) (fun _ _ _ h => h) (Or.inl ⟨by rfl, ?_⟩) ?_ ?_
   rotate_left
   ·intro w'
    go_simp
    with_reducible rfl
   rotate_left
   ·simp only [Act.put, List.setIfInBounds_toArray, List.set_cons_zero, List.set_cons_succ, i64_w, i32_w]
    rfl
   refine pure_ (i := 18) (N := some 121) (v := ?_) (a' := ?_) #[true, true, true, true, true, true, true, true, true, true, true, true, true, true, true, true, true, true, true, false, false, false, false, false, false, false, false, false, false, false, false, false] rfl rfl (any_of HT_.out (by kernel_rfl)) (fun _ _ _ h => h) (Or.inl ⟨by rfl, ?_⟩) ?_ ?_
   rotate_left
   ·intro w'
    go_simp
    with_reducible rfl
   rotate_left
   ·simp only [Act.put, List.setIfInBounds_toArray, List.set_cons_zero, List.set_cons_succ, i64_w, i32_w]
    rfl
   refine pure_ (i := 19) (N := some 122) (v := undef) (a' := ?_) #[true, true, true, true, true, true, true, true, true, true, true, true, true, true, true, true, true, true, true, true, false, false, false, false, false, false, false, false, false, false, false, false] rfl rfl (any_of HT_.out (by kernel_rfl)) (fun _ _ _ h => h) (Or.inr ⟨by rfl, rfl⟩) ?_ ?_
   rotate_left
   ·simp only [Act.put, List.setIfInBounds_toArray, List.set_cons_zero, List.set_cons_succ, i64_w, i32_w]
    rfl
   refine pure_ (i := 20) (N := some 123) (v := undef) (a' := ?_) #[true, true, true, true, true, true, true, true, true, true, true, true, true, true, true, true, true, true, true, true, true, false, false, false, false, false, false, false, false, false, false, false] rfl rfl (any_of HT_.out (by kernel_rfl)) (fun _ _ _ h => h) (Or.inr ⟨by rfl, rfl⟩) ?_ ?_
   rotate_left
   ·simp only [Act.put, List.setIfInBounds_toArray, List.set_cons_zero, List.set_cons_succ, i64_w, i32_w]
    rfl
   refine pure_ (i := 21) (N := some 124) (v := undef) (a' := ?_) #[true, true, true, true, true, true, true, true, true, true, true, true, true, true, true, true, true, true, true, true, true, true, false, false, false, false, false, false, false, false, false, false] rfl rfl (any_of HT_.out (by kernel_rfl)) (fun _ _ _ h => h) (Or.inr ⟨by rfl, rfl⟩) ?_ ?_
   rotate_left
   ·simp only [Act.put, List.setIfInBounds_toArray, List.set_cons_zero, List.set_cons_succ, i64_w, i32_w]
    rfl
   refine pure_ (i := 22) (N := some 125) (v := undef) (a' := ?_) #[true, true, true, true, true, true, true, true, true, true, true, true, true, true, true, true, true, true, true, true, true, true, true, false, false, false, false, false, false, false, false, false] rfl rfl (any_of HT_.out (by kernel_rfl)) (fun _ _ _ h => h) (Or.inr ⟨by rfl, rfl⟩) ?_ ?_
   rotate_left
   ·simp only [Act.put, List.setIfInBounds_toArray, List.set_cons_zero, List.set_cons_succ, i64_w, i32_w]
    rfl
   refine pure_ (i := 23) (N := some 126) (v := ?_) (a' := ?_) #[true, true, true, true, true, true, true, true, true, true, true, true, true, true, true, true, true, true, true, true, true, true, true, true, false, false, false, false, false, false, false, false] rfl rfl (any_of HT_.out (by kernel_rfl)) (fun _ _ _ h => h) (Or.inl ⟨by rfl, ?_⟩) ?_ ?_
   rotate_left
   ·intro w'
    go_simp
    with_reducible rfl
   rotate_left
   ·simp only [Act.put, List.setIfInBounds_toArray, List.set_cons_zero, List.set_cons_succ, i64_w, i32_w]
    rfl
   refine pure_ (i := 24) (N := some 127) (v := ?_) (a' := ?_) #[true, true, true, true, true, true, true, true, true, true, true, true, true, true, true, true, true, true, true, true, true, true, true, true, true, false, false, false, false, false, false, false] rfl rfl (any_of HT_.out (by kernel_rfl)) (fun _ _ _ h => h) (Or.inl ⟨by rfl, ?_⟩) ?_ ?_
   rotate_left
   ·intro w'
    go_simp
    with_reducible rfl
   rotate_left
   ·simp only [Act.put, List.setIfInBounds_toArray, List.set_cons_zero, List.set_cons_succ, i64_w, i32_w]
    rfl
   refine pure_ (i := 25) (N := some 128) (v := undef) (a' := ?_) #[true, true, true, true, true, true, true, true, true, true, true, true, true, true, true, true, true, true, true, true, true, true, true, true, true, true, false, false, false, false, false, false] rfl rfl (any_of HT_.out (by kernel_rfl)) (fun _ _ _ h => h) (Or.inr ⟨by rfl, rfl⟩) ?_ ?_
   rotate_left
   ·simp only [Act.put, List.setIfInBounds_toArray, List.set_cons_zero, List.set_cons_succ, i64_w, i32_w]
    rfl
   refine pure_ (i := 26) (N := some 129) (v := undef) (a' := ?_) #[true, true, true, true, true, true, true, true, true, true, true, true, true, true, true, true, true, true, true, true, true, true, true, true, true, true, true, false, false, false, false, false] rfl rfl (any_of HT_.out (by kernel_rfl)) (fun _ _ _ h => h) (Or.inr ⟨by rfl, rfl⟩) ?_ ?_
   rotate_left
   ·simp only [Act.put, List.setIfInBounds_toArray, List.set_cons_zero, List.set_cons_succ, i64_w, i32_w]
    rfl
   refine pure_ (i := 27) (N := some 130) (v := undef) (a' := ?_) #[true, true, true, true, true, true, true, true, true, true, true, true, true, true, true, true, true, true, true, true, true, true, true, true, true, true, true, true, false, false, false, false] rfl rfl (any_of HT_.out (by kernel_rfl)) (fun _ _ _ h => h) (Or.inr ⟨by rfl, rfl⟩) ?_ ?_
   rotate_left
   ·simp only [Act.put, List.setIfInBounds_toArray, List.set_cons_zero, List.set_cons_succ, i64_w, i32_w]
    rfl
   refine pure_ (i := 28) (N := some 131) (v := undef) (a' := ?_) #[true, true, true, true, true, true, true, true, true, true, true, true, true, true, true, true, true, true, true, true, true, true, true, true, true, true, true, true, true, false, false, false] rfl rfl (any_of HT_.out (by kernel_rfl)) (fun _ _ _ h => h) (Or.inr ⟨by rfl, rfl⟩) ?_ ?_
   rotate_left
   ·simp only [Act.put, List.setIfInBounds_toArray, List.set_cons_zero, List.set_cons_succ, i64_w, i32_w]
    rfl
   refine pure_ (i := 29) (N := some 132) (v := undef) (a' := ?_) #[true, true, true, true, true, true, true, true, true, true, true, true, true, true, true, true, true, true, true, true, true, true, true, true, true, true, true, true, true, true, false, false] rfl rfl (any_of HT_.out (by kernel_rfl)) (fun _ _ _ h => h) (Or.inr ⟨by rfl, rfl⟩) ?_ ?_
   rotate_left
   ·simp only [Act.put, List.setIfInBounds_toArray, List.set_cons_zero, List.set_cons_succ, i64_w, i32_w]
    rfl
   refine pure_ (i := 30) (N := some 133) (v := undef) (a' := ?_) #[true, true, true, true, true, true, true, true, true, true, true, true, true, true, true, true, true, true, true, true, true, true, true, true, true, true, true, true, true, true, true, false] rfl rfl (any_of HT_.out (by kernel_rfl)) (fun _ _ _ h => h) (Or.inr ⟨by rfl, rfl⟩) ?_ ?_
   rotate_left
   ·simp only [Act.put, List.setIfInBounds_toArray, List.set_cons_zero, List.set_cons_succ, i64_w, i32_w]
    rfl
   refine pure_ (i := 31) (N := some 134) (v := ?_) (a' := ?_) #[true, true, true, true, true, true, true, true, true, true, true, true, true, true, true, true, true, true, true, true, true, true, true, true, true, true, true, true, true, true, true, true] rfl rfl (any_of HT_.out (by kernel_rfl)) (fun _ _ _ h => h) (Or.inl ⟨by rfl, ?_⟩) ?_ ?_
   rotate_left
   ·intro w'
    go_simp
    with_reducible rfl
   rotate_left
   ·simp only [Act.put, List.setIfInBounds_toArray, List.set_cons_zero, List.set_cons_succ, i64_w, i32_w]
    rfl
   refine done_ (done_of HT_.out (by kernel_rfl)) ?_
   try go_wp2
   go_meet
   case rel => exact ⟨_, (true), (by first | rfl | (simp; done) | (simp [*]; done) | (simp [*]; omega)), H', ⟨by first | omega | exact Nat.le_refl _⟩, ⟨by (with_reducible repeat (first | apply Kd.R_alloc | apply Kd.R_drewN | apply Kd.R_drew)); exact HO258.out⟩, ⟨by (with_reducible repeat (first | apply Kd.R_alloc | apply Kd.R_drewN | apply Kd.R_drew)); exact Kd.R_mono HO244.out (fun _ hk => ⟨hk.1.2, hk.2⟩)⟩, ⟨by (with_reducible repeat (first | apply Kd.R_alloc | apply Kd.R_drewN | apply Kd.R_drew)); exact Kd.R_mono HO248.out (fun _ hk => ⟨hk.1.2, hk.2⟩)⟩, ⟨by (with_reducible repeat (first | apply Kd.R_alloc | apply Kd.R_drewN | apply Kd.R_drew)); exact Kd.R_mono HO254.out (fun _ hk => ⟨hk.1.2, hk.2⟩)⟩, ⟨by (with_reducible repeat (first | refine blk_drewN ?_ _ | refine blk_drew ?_ | refine blk_alloc ?_ _)); exact BK249.out⟩, ⟨by (with_reducible repeat (first | refine blk_drewN ?_ _ | refine blk_drew ?_ | refine blk_alloc ?_ _)); exact BK250.out⟩, ⟨by (with_reducible repeat (first | refine blk_drewN ?_ _ | refine blk_drew ?_ | refine blk_alloc ?_ _)); exact BK255.out⟩, ⟨by repeat (first | (with_reducible first | exact HB.out | apply below_alloc | apply pw_below_drewN | apply below_drew1 | refine below_set ?_ GE249.out | refine below_set ?_ GE250.out | refine below_set ?_ GE255.out) | exact HB.out)⟩⟩
  ·rw [if_neg c44] at H
   have c44b0 : (t259 != a20) = false := by simpa using c44
   (try (have c44b1 : decide (t259 = a20) = true := by simpa using c44))
   (try (have c44b2 : (t259 == a20) = true := by simpa using c44))
   clear c44
   (first | rw [c44b0] | (simp only [i64_w, i32_w]; rw [c44b0]) | skip)
   by_cases c47 : (t256.length : Int) = a16
   ·rw [if_pos c47] at H
    have c47b0 : ((t256.length : Int) == a16) = true := beq_iff_eq.mpr c47
    have c47b1 : ((t256.length : Int) != a16) = false := bne_eq_false_iff_eq.mpr c47
    clear c47
    replace H := Option.bind_eq_some_iff.mp H
    obtain ⟨t260, A480, H⟩ := H
    replace H : (if t260 = true then ((span_Has.f k t251 t252 t245 t246).bind fun t261 => (if t261 = true then ((span_Join.f k t245 t246 t241 t242).bind fun bt262 => ((span_Same.f k t251 t252 bt262.1 bt262.2).bind fun t266 => (SJ.j0 k l11 l12 l14 t256 (!t266) t251 t252))) else (SJ.j0 k l11 l12 l14 t256 true t251 t252))) else (SJ.j0 k l11 l12 l14 t256 true t251 t252)) = some r := H
    have A48 := Aside0.mk A480
    clear A480
    by_cases c49 : t260 = true
    ·subst c49
     have H1 : ((span_Has.f k t251 t252 t245 t246).bind fun t261 => (if t261 = true then ((span_Join.f k t245 t246 t241 t242).bind fun bt262 => ((span_Same.f k t251 t252 bt262.1 bt262.2).bind fun t266 => (SJ.j0 k l11 l12 l14 t256 (!t266) t251 t252))) else (SJ.j0 k l11 l12 l14 t256 true t251 t252))) = some r := by rw [if_pos rfl] at H; exact H
     clear H
     have H := H1
     clear H1
     replace H := Option.bind_eq_some_iff.mp H
     obtain ⟨t261, A500, H⟩ := H
     replace H : (if t261 = true then ((span_Join.f k t245 t246 t241 t242).bind fun bt262 => ((span_Same.f k t251 t252 bt262.1 bt262.2).bind fun t266 => (SJ.j0 k l11 l12 l14 t256 (!t266) t251 t252))) else (SJ.j0 k l11 l12 l14 t256 true t251 t252)) = some r := H
     have A50 := Aside0.mk A500
     clear A500
     by_cases c51 : t261 = true
     ·subst c51
      have H1 : ((span_Join.f k t245 t246 t241 t242).bind fun bt262 => ((span_Same.f k t251 t252 bt262.1 bt262.2).bind fun t266 => (SJ.j0 k l11 l12 l14 t256 (!t266) t251 t252))) = some r := by rw [if_pos rfl] at H; exact H
      clear H
      have H := H1
      clear H1
      replace H := Option.bind_eq_some_iff.mp H
      obtain ⟨⟨t262, t263⟩, A520, H⟩ := H
      replace H : ((span_Same.f k t251 t252 t262 t263).bind fun t266 => (SJ.j0 k l11 l12 l14 t256 (!t266) t251 t252)) = some r := H
      have A52 := Aside0.mk A520
      clear A520
      replace H := Option.bind_eq_some_iff.mp H
      obtain ⟨t266, A530, H⟩ := H
      replace H : (SJ.j0 k l11 l12 l14 t256 (!t266) t251 t252) = some r := H
      have A53 := Aside0.mk A530
      clear A530
      have H' := Aside0.mk H
      clear H
      try go_wp2
      have n0_ := Aside0.mk (Kd.R_drew HO244.out)
      have n1_ := Aside0.mk (Kd.R_drew HO248.out)
      have n2_ := Aside0.mk (Kd.R_drew HO254.out)
      have n3_ := Aside0.mk (Kd.R_drew HO258.out)
      have n4_ := Aside0.mk (blk_drew BK249.out)
      have n5_ := Aside0.mk (blk_drew BK250.out)
      have n6_ := Aside0.mk (blk_drew BK255.out)
      have n7_ := Aside0.mk (below_drew1 HB.out)
      clear HO244
      clear HO248
      clear HO254
      clear HO258
      clear BK249
      clear BK250
      clear BK255
      clear HB
      have HO244 := n0_
      have HO248 := n1_
      have HO254 := n2_
      have HO258 := n3_
      have BK249 := n4_
      have BK250 := n5_
      have BK255 := n6_
      have HB := n7_
      clear n0_ n1_ n2_ n3_ n4_ n5_ n6_ n7_
      refine start_ (n := 32) (S := fun w' => w'.cell? ⟨gb249, 0, none⟩ = some (.int .i64 t241) ∧ w'.cell? ⟨gb249, 1, none⟩ = some (.slice Ao33 t242.length co33) ∧ w'.cell? ⟨gb250, 0, none⟩ = some (.int .i64 t245) ∧ w'.cell? ⟨gb250, 1, none⟩ = some (.slice Ao35 t246.length co35) ∧ w'.cell? ⟨gb255, 0, none⟩ = some (.int .i64 t251) ∧ w'.cell? ⟨gb255, 1, none⟩ = some (.slice Ao41 t252.length co41) ∧ w'.ownsMap Try.prog 3 (plainElem (H := Unit) Try.prog 3) mB nB D) (ds := []) #[false, false, false, false, false, false, false, false, false, false, false, false, false, false, false, false, false, false, false, false, false, false, false, false, false, false, false, false, false, false, false, false] (by kernel_rfl) rfl rfl ⟨(blk_cell BK249.out 0).trans rfl, (blk_cell BK249.out 1).trans rfl, (blk_cell BK250.out 0).trans rfl, (blk_cell BK250.out 1).trans rfl, (blk_cell BK255.out 0).trans rfl, (blk_cell BK255.out 1).trans rfl, HMB.out _ HB.out⟩ (fun hHeld => ?_); refine with_tabW SJ.tab24 SJ.bits24 (fun HT_ HW_ => ?_)
      generalize w42.drew = w54 at HO244 HO248 HO254 HO258 BK249 BK250 BK255 HB hHeld ⊢
      refine pure_ (i := 3) (N := some 106) (v := ?_) (a' := ?_) #[false, false, false, true, false, false, false, false, false, false, false, false, false, false, false, false, false, false, false, false, false, false, false, false, false, false, false, false, false, false, false, false] rfl rfl (any_of HT_.out (by kernel_rfl)) (fun _ _ _ h => h) (Or.inl ⟨by rfl, ?_⟩) ?_ ?_
      rotate_left
      ·intro w'
       go_simp
       with_reducible rfl
      rotate_left
      ·simp only [Act.put, List.setIfInBounds_toArray, List.set_cons_zero, List.set_cons_succ, i64_w, i32_w]
       rfl
      refine take_ (i := 0) (N := some 103) (v := ?_) (a' := ?_) #[true, false, false, true, false, false, false, false, false, false, false, false, false, false, false, false, false, false, false, false, false, false, false, false, false, false, false, false, false, false, false, false] rfl rfl (take_ofW HT_.out HW_.out (by kernel_rfl)) (fun _ _ _ h => h) (Or.inl ⟨by rfl, ?_⟩) hHeld ?_ ?_
      rotate_left
      ·rintro w' ⟨s0, s1, s2, s3, s4, s5, sM⟩
       go_simp
       with_reducible rfl
      rotate_left
      ·simp only [Act.put, List.setIfInBounds_toArray, List.set_cons_zero, List.set_cons_succ, i64_w, i32_w]
       rfl
      refine take_ (i := 1) (N := some 104) (v := ?_) (a' := ?_) #[true, true, false, true, false, false, false, false, false, false, false, false, false, false, false, false, false, false, false, false, false, false, false, false, false, false, false, false, false, false, false, false] rfl rfl (take_ofW HT_.out HW_.out (by kernel_rfl)) (fun _ _ _ h => h) (Or.inl ⟨by rfl, ?_⟩) hHeld ?_ ?_
      rotate_left
      ·rintro w' ⟨s0, s1, s2, s3, s4, s5, sM⟩
       go_simp
       with_reducible rfl
      rotate_left
      ·simp only [Act.put, List.setIfInBounds_toArray, List.set_cons_zero, List.set_cons_succ, i64_w, i32_w]
       rfl
      refine one_ (i := 2) (N := some 105) #[true, true, true, true, false, false, false, false, false, false, false, false, false, false, false, false, false, false, false, false, false, false, false, false, false, false, false, false, false, false, false, false] rfl rfl (one_of HT_.out (by kernel_rfl)) (by decide) (fun K hK => ?_)
      refine goes_ Try.func12 (by kernel_rfl) rfl #[.agg #[.int .i64 t241, .slice Ao33 t242.length co33], .agg #[.int .i64 t245, .slice Ao35 t246.length co35]] (by rfl) rfl rfl (by (try simp only [List.map_toArray, List.map_cons, List.map_nil]); first | done | rfl | (simp only [List.length_drop, List.length_take]; rfl)) ?_
      with_reducible refine (span_Has.calls k t241 _ _ t242 t245 _ _ t246 t259 _ ?side1 ?side2 ?side3 ?side4 A43.out).mono ?_
      (case side1 => repeat (first | exact (Kd.R_reads' HO244.out).2.2 | (with_reducible refine Kd.C_alloc ?_ _) | (with_reducible refine Kd.C_drewN ?_ _) | (with_reducible refine Kd.C_drew ?_)))
      (case side2 => exact (Kd.R_reads' HO244.out).2.1)
      (case side3 => repeat (first | exact (Kd.R_reads' HO248.out).2.2 | (with_reducible refine Kd.C_alloc ?_ _) | (with_reducible refine Kd.C_drewN ?_ _) | (with_reducible refine Kd.C_drew ?_)))
      (case side4 => exact (Kd.R_reads' HO248.out).2.1)
      rintro e w55 ⟨rfl, hb⟩
      refine ⟨_, rfl, ?_⟩
      have n0_ := Aside0.mk (Kd.R_below (by (with_reducible repeat (first | apply Kd.R_alloc | apply Kd.R_drewN | apply Kd.R_drew)); exact HO244.out) hb)
      have n1_ := Aside0.mk (Kd.R_below (by (with_reducible repeat (first | apply Kd.R_alloc | apply Kd.R_drewN | apply Kd.R_drew)); exact HO248.out) hb)
      have n2_ := Aside0.mk (Kd.R_below (by (with_reducible repeat (first | apply Kd.R_alloc | apply Kd.R_drewN | apply Kd.R_drew)); exact HO254.out) hb)
      have n3_ := Aside0.mk (Kd.R_below (by (with_reducible repeat (first | apply Kd.R_alloc | apply Kd.R_drewN | apply Kd.R_drew)); exact HO258.out) hb)
      have n4_ := Aside0.mk (blk_below (g := gb249) (o := .cells #[.int .i64 t241, .slice Ao33 t242.length co33] 31 (0, 0)) (by (with_reducible repeat (first | refine blk_drewN ?_ _ | refine blk_drew ?_ | refine blk_alloc ?_ _)); exact BK249.out) hb)
      have n5_ := Aside0.mk (blk_below (g := gb250) (o := .cells #[.int .i64 t245, .slice Ao35 t246.length co35] 31 (0, 0)) (by (with_reducible repeat (first | refine blk_drewN ?_ _ | refine blk_drew ?_ | refine blk_alloc ?_ _)); exact BK250.out) hb)
      have n6_ := Aside0.mk (blk_below (g := gb255) (o := .cells #[.int .i64 t251, .slice Ao41 t252.length co41] 31 (0, 0)) (by (with_reducible repeat (first | refine blk_drewN ?_ _ | refine blk_drew ?_ | refine blk_alloc ?_ _)); exact BK255.out) hb)
      have n7_ := Aside0.mk (below_step (by repeat (first | (with_reducible first | exact HB.out | apply below_alloc | apply pw_below_drewN | apply below_drew1 | refine below_set ?_ GE249.out | refine below_set ?_ GE250.out | refine below_set ?_ GE255.out) | exact HB.out)) hb)
      clear HO244
      clear HO248
      clear HO254
      clear HO258
      clear BK249
      clear BK250
      clear BK255
      clear HB
      have HO244 := n0_
      have HO248 := n1_
      have HO254 := n2_
      have HO258 := n3_
      have BK249 := n4_
      have BK250 := n5_
      have BK255 := n6_
      have HB := n7_
      clear n0_ n1_ n2_ n3_ n4_ n5_ n6_ n7_
      (try clear hb)
      (try clear hb2)
      (try clear hk)
      (try clear hi)
      obtain ⟨Ao56, co56, eo56⟩ := Kd.R_slice HO258.out
      (first | subst eo56 | (injection eo56 with f1_ f2_ f3_; have f4_ := f1_.symm; have f5_ := f3_.symm; clear f1_ f2_ f3_; subst f4_; subst f5_))
      refine hK.out _ _ ⟨(blk_cell BK249.out 0).trans rfl, (blk_cell BK249.out 1).trans rfl, (blk_cell BK250.out 0).trans rfl, (blk_cell BK250.out 1).trans rfl, (blk_cell BK255.out 0).trans rfl, (blk_cell BK255.out 1).trans rfl, HMB.out _ HB.out⟩ (fun hHeld => ?_)
      clear hK K
      refine norm_ (a' := ?_) ?_ ?_
      rotate_left
      ·show Act.put _ (some 105) _ = _
       simp only [Act.put, List.setIfInBounds_toArray, List.set_cons_zero, List.set_cons_succ, i64_w, i32_w]
       rfl
      refine pure_ (i := 4) (N := some 107) (v := ?_) (a' := ?_) #[true, true, true, true, true, false, false, false, false, false, false, false, false, false, false, false, false, false, false, false, false, false, false, false, false, false, false, false, false, false, false, false] rfl rfl (any_of HT_.out (by kernel_rfl)) (fun _ _ _ h => h) (Or.inl ⟨by rfl, ?_⟩) ?_ ?_
      rotate_left
      ·intro w'
       go_simp
       with_reducible rfl
      rotate_left
      ·simp only [Act.put, List.setIfInBounds_toArray, List.set_cons_zero, List.set_cons_succ, i64_w, i32_w]
       rfl
      refine pure_ (i := 5) (N := some 108) (v := ?_) (a' := ?_) #[true, true, true, true, true, true, false, false, false, false, false, false, false, false, false, false, false, false, false, false, false, false, false, false, false, false, false, false, false, false, false, false] rfl rfl (any_of HT_.out (by kernel_rfl)) (fun _ _ _ h => h) (Or.inl ⟨by rfl, ?_⟩) ?_ ?_
      rotate_left
      ·intro w'
       go_simp
       with_reducible rfl
      rotate_left
      ·simp only [Act.put, List.setIfInBounds_toArray, List.set_cons_zero, List.set_cons_succ, i64_w, i32_w]
       rfl
      refine pure_ (i := 6) (N := some 109) (v := ?_) (a' := ?_) #[true, true, true, true, true, true, true, false, false, false, false, false, false, false, false, false, false, false, false, false, false, false, false, false, false, false, false, false, false, false, false, false] rfl rfl (any_of HT_.out (by kernel_rfl)) (fun _ _ _ h => h) (Or.inl ⟨by rfl, ?_⟩) ?_ ?_
      rotate_left
      ·intro w'
       go_simp
       with_reducible rfl
      rotate_left
      ·simp only [Act.put, List.setIfInBounds_toArray, List.set_cons_zero, List.set_cons_succ, i64_w, i32_w]
       rfl
      refine pure_ (i := 7) (N := some 110) (v := ?_) (a' := ?_) #[true, true, true, true, true, true, true, true, false, false, false, false, false, false, false, false, false, false, false, false, false, false, false, false, false, false, false, false, false, false, false, false] rfl rfl (any_of HT_.out (by kernel_rfl)) (fun _ _ _ h => h) (Or.inl ⟨by rfl, ?_⟩) ?_ ?_
      rotate_left
      ·intro w'
       go_simp
       with_reducible rfl
      rotate_left
      ·simp only [Act.put, List.setIfInBounds_toArray, List.set_cons_zero, List.set_cons_succ, i64_w, i32_w]
       rfl
      refine pure_ (i := 8) (N := some 111) (v := ?_) (a' := ?_) #[true, true, true, true, true, true, true, true, true, false, false, false, false, false, false, false, false, false, false, false, false, false, false, false, false, false, false, false, false, false, false, false] rfl rfl (any_of HT_.out (by kernel_rfl)) (fun _ _ _ h => h) (Or.inl ⟨by rfl, ?_⟩) ?_ ?_
      rotate_left
      ·intro w'
       go_simp
       with_reducible rfl
      rotate_left
      ·simp only [Act.put, List.setIfInBounds_toArray, List.set_cons_zero, List.set_cons_succ, i64_w, i32_w]
       rfl
      refine take_ (i := 9) (N := some 112) (v := .int .i64 a16) (a' := ?_) #[true, true, true, true, true, true, true, true, true, true, false, false, false, false, false, false, false, false, false, false, false, false, false, false, false, false, false, false, false, false, false, false] rfl rfl (take_ofW HT_.out HW_.out (by kernel_rfl)) (fun _ _ _ h => h) (Or.inl ⟨by rfl, ?_⟩) hHeld ?_ ?_
      ·rintro w' ⟨s0, s1, s2, s3, s4, s5, sM⟩
       exact len_step sM HSZ.out _ rfl rfl
      rotate_left
      ·simp only [Act.put, List.setIfInBounds_toArray, List.set_cons_zero, List.set_cons_succ, i64_w, i32_w]
       rfl
      refine pure_ (i := 10) (N := some 113) (v := ?_) (a' := ?_) #[true, true, true, true, true, true, true, true, true, true, true, false, false, false, false, false, false, false, false, false, false, false, false, false, false, false, false, false, false, false, false, false] rfl rfl (any_of HT_.out (by kernel_rfl)) (fun _ _ _ h => h) (Or.inl ⟨by rfl, ?_⟩) ?_ ?_
      rotate_left
      ·intro w'
       go_simp
       with_reducible rfl
      rotate_left
      ·simp only [Act.put, List.setIfInBounds_toArray, List.set_cons_zero, List.set_cons_succ, i64_w, i32_w]
       rfl
      refine pure_ (i := 11) (N := some 114) (v := ?_) (a' := ?_) #[true, true, true, true, true, true, true, true, true, true, true, true, false, false, false, false, false, false, false, false, false, false, false, false, false, false, false, false, false, false, false, false] rfl rfl (any_of HT_.out (by kernel_rfl)) (fun _ _ _ h => h) (Or.inl ⟨by rfl, ?_⟩) ?_ ?_
      rotate_left
      ·intro w'
       go_simp
       with_reducible rfl
      rotate_left
      ·simp only [Act.put, List.setIfInBounds_toArray, List.set_cons_zero, List.set_cons_succ, i64_w, i32_w]
       rfl
      refine pure_ (i := 12) (N := some 115) (v := ?_) (a' := ?_) #[true, true, true, true, true, true, true, true, true, true, true, true, true, false, false, false, false, false, false, false, false, false, false, false, false, false, false, false, false, false, false, false] rfl rfl (any_of HT_.out (by kernel_rfl)) (fun _ _ _ h => h) (Or.inl ⟨by rfl, ?_⟩) ?_ ?_
      rotate_left
      ·intro w'
       go_simp
       with_reducible rfl
      rotate_left
      ·simp only [Act.put, List.setIfInBounds_toArray, List.set_cons_zero, List.set_cons_succ, i64_w, i32_w]
       rfl
      refine take_ (i := 13) (N := some 116) (v := ?_) (a' := ?_) #[true, true, true, true, true, true, true, true, true, true, true, true, true, true, false, false, false, false, false, false, false, false, false, false, false, false, false, false, false, false, false, false] rfl rfl (take_ofW HT_.out HW_.out (by kernel_rfl)) (fun _ _ _ h => h) (Or.inl ⟨by rfl, ?_⟩) hHeld ?_ ?_
      rotate_left
      ·rintro w' ⟨s0, s1, s2, s3, s4, s5, sM⟩
       go_simp
       with_reducible rfl
      rotate_left
      ·simp only [Act.put, List.setIfInBounds_toArray, List.set_cons_zero, List.set_cons_succ, i64_w, i32_w]
       rfl
      refine take_ (i := 14) (N := some 117) (v := ?_) (a' := ?_) #[true, true, true, true, true, true, true, true, true, true, true, true, true, true, true, false, false, false, false, false, false, false, false, false, false, false, false, false, false, false, false, false] rfl rfl (take_ofW HT_.out HW_.out (by kernel_rfl)) (fun _ _ _ h => h) (Or.inl ⟨by rfl, ?_⟩) hHeld ?_ ?_
      rotate_left
      ·rintro w' ⟨s0, s1, s2, s3, s4, s5, sM⟩
       go_simp
       with_reducible rfl
      rotate_left
      ·simp only [Act.put, List.setIfInBounds_toArray, List.set_cons_zero, List.set_cons_succ, i64_w, i32_w]
       rfl
      refine one_ (i := 15) (N := some 118) #[true, true, true, true, true, true, true, true, true, true, true, true, true, true, true, true, false, false, false, false, false, false, false, false, false, false, false, false, false, false, false, false] rfl rfl (one_of HT_.out (by kernel_rfl)) (by decide) (fun K hK => ?_)
      refine goes_ Try.func12 (by kernel_rfl) rfl #[.agg #[.int .i64 t251, .slice Ao41 t252.length co41], .agg #[.int .i64 t241, .slice Ao33 t242.length co33]] (by rfl) rfl rfl (by (try simp only [List.map_toArray, List.map_cons, List.map_nil]); first | done | rfl | (simp only [List.length_drop, List.length_take]; rfl)) ?_
      with_reducible refine (span_Has.calls k t251 _ _ t252 t241 _ _ t242 true _ ?side1 ?side2 ?side3 ?side4 A48.out).mono ?_
      (case side1 => repeat (first | exact (Kd.R_reads' HO254.out).2.2 | (with_reducible refine Kd.C_alloc ?_ _) | (with_reducible refine Kd.C_drewN ?_ _) | (with_reducible refine Kd.C_drew ?_)))
      (case side2 => exact (Kd.R_reads' HO254.out).2.1)
      (case side3 => repeat (first | exact (Kd.R_reads' HO244.out).2.2 | (with_reducible refine Kd.C_alloc ?_ _) | (with_reducible refine Kd.C_drewN ?_ _) | (with_reducible refine Kd.C_drew ?_)))
      (case side4 => exact (Kd.R_reads' HO244.out).2.1)
      rintro e w57 ⟨rfl, hb⟩
      refine ⟨_, rfl, ?_⟩
      have n0_ := Aside0.mk (Kd.R_below (by (with_reducible repeat (first | apply Kd.R_alloc | apply Kd.R_drewN | apply Kd.R_drew)); exact HO244.out) hb)
      have n1_ := Aside0.mk (Kd.R_below (by (with_reducible repeat (first | apply Kd.R_alloc | apply Kd.R_drewN | apply Kd.R_drew)); exact HO248.out) hb)
      have n2_ := Aside0.mk (Kd.R_below (by (with_reducible repeat (first | apply Kd.R_alloc | apply Kd.R_drewN | apply Kd.R_drew)); exact HO254.out) hb)
      have n3_ := Aside0.mk (Kd.R_below (by (with_reducible repeat (first | apply Kd.R_alloc | apply Kd.R_drewN | apply Kd.R_drew)); exact HO258.out) hb)
      have n4_ := Aside0.mk (blk_below (g := gb249) (o := .cells #[.int .i64 t241, .slice Ao33 t242.length co33] 31 (0, 0)) (by (with_reducible repeat (first | refine blk_drewN ?_ _ | refine blk_drew ?_ | refine blk_alloc ?_ _)); exact BK249.out) hb)
      have n5_ := Aside0.mk (blk_below (g := gb250) (o := .cells #[.int .i64 t245, .slice Ao35 t246.length co35] 31 (0, 0)) (by (with_reducible repeat (first | refine blk_drewN ?_ _ | refine blk_drew ?_ | refine blk_alloc ?_ _)); exact BK250.out) hb)
      have n6_ := Aside0.mk (blk_below (g := gb255) (o := .cells #[.int .i64 t251, .slice Ao41 t252.length co41] 31 (0, 0)) (by (with_reducible repeat (first | refine blk_drewN ?_ _ | refine blk_drew ?_ | refine blk_alloc ?_ _)); exact BK255.out) hb)
      have n7_ := Aside0.mk (below_step (by repeat (first | (with_reducible first | exact HB.out | apply below_alloc | apply pw_below_drewN | apply below_drew1 | refine below_set ?_ GE249.out | refine below_set ?_ GE250.out | refine below_set ?_ GE255.out) | exact HB.out)) hb)
      clear HO244
      clear HO248
      clear HO254
      clear HO258
      clear BK249
      clear BK250
      clear BK255
      clear HB
      have HO244 := n0_
      have HO248 := n1_
      have HO254 := n2_
      have HO258 := n3_
      have BK249 := n4_
      have BK250 := n5_
      have BK255 := n6_
      have HB := n7_
      clear n0_ n1_ n2_ n3_ n4_ n5_ n6_ n7_
      (try clear hb)
      (try clear hb2)
      (try clear hk)
      (try clear hi)
      refine hK.out _ _ ⟨(blk_cell BK249.out 0).trans rfl, (blk_cell BK249.out 1).trans rfl, (blk_cell BK250.out 0).trans rfl, (blk_cell BK250.out 1).trans rfl, (blk_cell BK255.out 0).trans rfl, (blk_cell BK255.out 1).trans rfl, HMB.out _ HB.out⟩ (fun hHeld => ?_)
      clear hK K
      refine norm_ (a' := ?_) ?_ ?_
      rotate_left
      ·show Act.put _ (some 118) _ = _
       simp only [Act.put, List.setIfInBounds_toArray, List.set_cons_zero, List.set_cons_succ, i64_w, i32_w]
       rfl
      refine pure_ (i := 16) (N := some 119) (v := ?_) (a' := ?_) #[true, true, true, true, true, true, true, true, true, true, true, true, true, true, true, true, true, false, false, false, false, false, false, false, false, false, false, false, false, false, false, false] rfl rfl (any_of HT_.out (by kernel_rfl)) (fun _ _ _ h => h) (Or.inl ⟨by rfl, ?_⟩) ?_ ?_
      rotate_left
      ·intro w'
       go_simp
       with_reducible rfl
      rotate_left
      ·simp only [Act.put, List.setIfInBounds_toArray, List.set_cons_zero, List.set_cons_succ, i64_w, i32_w]
       rfl
      refine pure_ (i := 17) (N := some 120) (v := ?_) (a' := ?_) #[true, true, true, true, true, true, true, true, true, true, true, true, true, true, true, true, true, true, false, false, false, false, false, false, false, false, false, false, false, false, false, false] rfl rfl (any_of HT_.out (by kernel_rfl)) (fun _ _ _ h => h) (Or.inl ⟨by rfl, ?_⟩) ?_ ?_
      rotate_left
      ·intro w'
       go_simp
       with_reducible rfl
      rotate_left
      ·simp only [Act.put, List.setIfInBounds_toArray, List.set_cons_zero, List.set_cons_succ, i64_w, i32_w]
       rfl
      refine pure_ (i := 18) (N := some 121) (v := ?_) (a' := ?_) #[true, true, true, true, true, true, true, true, true, true, true, true, true, true, true, true, true, true, true, false, false, false, false, false, false, false, false, false, false, false, false, false] rfl rfl (any_of HT_.out (by kernel_rfl)) (fun _ _ _ h => h) (Or.inl ⟨by rfl, ?_⟩) ?_ ?_
      rotate_left
      ·intro w'
       go_simp
       with_reducible rfl
      rotate_left
      ·simp only [Act.put, List.setIfInBounds_toArray, List.set_cons_zero, List.set_cons_succ, i64_w, i32_w]
       rfl
      refine take_ (i := 19) (N := some 122) (v := ?_) (a' := ?_) #[true, true, true, true, true, true, true, true, true, true, true, true, true, true, true, true, true, true, true, true, false, false, false, false, false, false, false, false, false, false, false, false] rfl rfl (take_ofW HT_.out HW_.out (by kernel_rfl)) (fun _ _ _ h => h) (Or.inl ⟨by rfl, ?_⟩) hHeld ?_ ?_
      rotate_left
      ·rintro w' ⟨s0, s1, s2, s3, s4, s5, sM⟩
       go_simp
       with_reducible rfl
      rotate_left
      ·simp only [Act.put, List.setIfInBounds_toArray, List.set_cons_zero, List.set_cons_succ, i64_w, i32_w]
       rfl
      refine take_ (i := 20) (N := some 123) (v := ?_) (a' := ?_) #[true, true, true, true, true, true, true, true, true, true, true, true, true, true, true, true, true, true, true, true, true, false, false, false, false, false, false, false, false, false, false, false] rfl rfl (take_ofW HT_.out HW_.out (by kernel_rfl)) (fun _ _ _ h => h) (Or.inl ⟨by rfl, ?_⟩) hHeld ?_ ?_
      rotate_left
      ·rintro w' ⟨s0, s1, s2, s3, s4, s5, sM⟩
       go_simp
       with_reducible rfl
      rotate_left
      ·simp only [Act.put, List.setIfInBounds_toArray, List.set_cons_zero, List.set_cons_succ, i64_w, i32_w]
       rfl
      refine one_ (i := 21) (N := some 124) #[true, true, true, true, true, true, true, true, true, true, true, true, true, true, true, true, true, true, true, true, true, true, false, false, false, false, false, false, false, false, false, false] rfl rfl (one_of HT_.out (by kernel_rfl)) (by decide) (fun K hK => ?_)
      refine goes_ Try.func12 (by kernel_rfl) rfl #[.agg #[.int .i64 t251, .slice Ao41 t252.length co41], .agg #[.int .i64 t245, .slice Ao35 t246.length co35]] (by rfl) rfl rfl (by (try simp only [List.map_toArray, List.map_cons, List.map_nil]); first | done | rfl | (simp only [List.length_drop, List.length_take]; rfl)) ?_
      with_reducible refine (span_Has.calls k t251 _ _ t252 t245 _ _ t246 true _ ?side1 ?side2 ?side3 ?side4 A50.out).mono ?_
      (case side1 => repeat (first | exact (Kd.R_reads' HO254.out).2.2 | (with_reducible refine Kd.C_alloc ?_ _) | (with_reducible refine Kd.C_drewN ?_ _) | (with_reducible refine Kd.C_drew ?_)))
      (case side2 => exact (Kd.R_reads' HO254.out).2.1)
      (case side3 => repeat (first | exact (Kd.R_reads' HO248.out).2.2 | (with_reducible refine Kd.C_alloc ?_ _) | (with_reducible refine Kd.C_drewN ?_ _) | (with_reducible refine Kd.C_drew ?_)))
      (case side4 => exact (Kd.R_reads' HO248.out).2.1)
      rintro e w58 ⟨rfl, hb⟩
      refine ⟨_, rfl, ?_⟩
      have n0_ := Aside0.mk (Kd.R_below (by (with_reducible repeat (first | apply Kd.R_alloc | apply Kd.R_drewN | apply Kd.R_drew)); exact HO244.out) hb)
      have n1_ := Aside0.mk (Kd.R_below (by (with_reducible repeat (first | apply Kd.R_alloc | apply Kd.R_drewN | apply Kd.R_drew)); exact HO248.out) hb)
      have n2_ := Aside0.mk (Kd.R_below (by (with_reducible repeat (first | apply Kd.R_alloc | apply Kd.R_drewN | apply Kd.R_drew)); exact HO254.out) hb)
      have n3_ := Aside0.mk (Kd.R_below (by (with_reducible repeat (first | apply Kd.R_alloc | apply Kd.R_drewN | apply Kd.R_drew)); exact HO258.out) hb)
      have n4_ := Aside0.mk (blk_below (g := gb249) (o := .cells #[.int .i64 t241, .slice Ao33 t242.length co33] 31 (0, 0)) (by (with_reducible repeat (first | refine blk_drewN ?_ _ | refine blk_drew ?_ | refine blk_alloc ?_ _)); exact BK249.out) hb)
      have n5_ := Aside0.mk (blk_below (g := gb250) (o := .cells #[.int .i64 t245, .slice Ao35 t246.length co35] 31 (0, 0)) (by (with_reducible repeat (first | refine blk_drewN ?_ _ | refine blk_drew ?_ | refine blk_alloc ?_ _)); exact BK250.out) hb)
      have n6_ := Aside0.mk (blk_below (g := gb255) (o := .cells #[.int .i64 t251, .slice Ao41 t252.length co41] 31 (0, 0)) (by (with_reducible repeat (first | refine blk_drewN ?_ _ | refine blk_drew ?_ | refine blk_alloc ?_ _)); exact BK255.out) hb)
      have n7_ := Aside0.mk (below_step (by repeat (first | (with_reducible first | exact HB.out | apply below_alloc | apply pw_below_drewN | apply below_drew1 | refine below_set ?_ GE249.out | refine below_set ?_ GE250.out | refine below_set ?_ GE255.out) | exact HB.out)) hb)
      clear HO244
      clear HO248
      clear HO254
      clear HO258
      clear BK249
      clear BK250
      clear BK255
      clear HB
      have HO244 := n0_
      have HO248 := n1_
      have HO254 := n2_
      have HO258 := n3_
      have BK249 := n4_
      have BK250 := n5_
      have BK255 := n6_
      have HB := n7_
      clear n0_ n1_ n2_ n3_ n4_ n5_ n6_ n7_
      (try clear hb)
      (try clear hb2)
      (try clear hk)
      (try clear hi)
      refine hK.out _ _ ⟨(blk_cell BK249.out 0).trans rfl, (blk_cell BK249.out 1).trans rfl, (blk_cell BK250.out 0).trans rfl, (blk_cell BK250.out 1).trans rfl, (blk_cell BK255.out 0).trans rfl, (blk_cell BK255.out 1).trans rfl, HMB.out _ HB.out⟩ (fun hHeld => ?_)
      clear hK K
      refine norm_ (a' := ?_) ?_ ?_
      rotate_left
      ·show Act.put _ (some 124) _ = _
       simp only [Act.put, List.setIfInBounds_toArray, List.set_cons_zero, List.set_cons_succ, i64_w, i32_w]
       rfl
      refine pure_ (i := 22) (N := some 125) (v := ?_) (a' := ?_) #[true, true, true, true, true, true, true, true, true, true, true, true, true, true, true, true, true, true, true, true, true, true, true, false, false, false, false, false, false, false, false, false] rfl rfl (any_of HT_.out (by kernel_rfl)) (fun _ _ _ h => h) (Or.inl ⟨by rfl, ?_⟩) ?_ ?_
      rotate_left
      ·intro w'
       go_simp
       with_reducible rfl
      rotate_left
      ·simp only [Act.put, List.setIfInBounds_toArray, List.set_cons_zero, List.set_cons_succ, i64_w, i32_w]
       rfl
      refine pure_ (i := 23) (N := some 126) (v := ?_) (a' := ?_) #[true, true, true, true, true, true, true, true, true, true, true, true, true, true, true, true, true, true, true, true, true, true, true, true, false, false, false, false, false, false, false, false] rfl rfl (any_of HT_.out (by kernel_rfl)) (fun _ _ _ h => h) (Or.inl ⟨by rfl, ?_⟩) ?_ ?_
      rotate_left
      ·intro w'
       go_simp
       with_reducible rfl
      rotate_left
      ·simp only [Act.put, List.setIfInBounds_toArray, List.set_cons_zero, List.set_cons_succ, i64_w, i32_w]
       rfl
      refine pure_ (i := 24) (N := some 127) (v := ?_) (a' := ?_) #[true, true, true, true, true, true, true, true, true, true, true, true, true, true, true, true, true, true, true, true, true, true, true, true, true, false, false, false, false, false, false, false] rfl rfl (any_of HT_.out (by kernel_rfl)) (fun _ _ _ h => h) (Or.inl ⟨by rfl, ?_⟩) ?_ ?_
      rotate_left
      ·intro w'
       go_simp
       with_reducible rfl
      rotate_left
      ·simp only [Act.put, List.setIfInBounds_toArray, List.set_cons_zero, List.set_cons_succ, i64_w, i32_w]
       rfl
      refine take_ (i := 25) (N := some 128) (v := ?_) (a' := ?_) #[true, true, true, true, true, true, true, true, true, true, true, true, true, true, true, true, true, true, true, true, true, true, true, true, true, true, false, false, false, false, false, false] rfl rfl (take_ofW HT_.out HW_.out (by kernel_rfl)) (fun _ _ _ h => h) (Or.inl ⟨by rfl, ?_⟩) hHeld ?_ ?_
      rotate_left
      ·rintro w' ⟨s0, s1, s2, s3, s4, s5, sM⟩
       go_simp
       with_reducible rfl
      rotate_left
      ·simp only [Act.put, List.setIfInBounds_toArray, List.set_cons_zero, List.set_cons_succ, i64_w, i32_w]
       rfl
      refine take_ (i := 26) (N := some 129) (v := ?_) (a' := ?_) #[true, true, true, true, true, true, true, true, true, true, true, true, true, true, true, true, true, true, true, true, true, true, true, true, true, true, true, false, false, false, false, false] rfl rfl (take_ofW HT_.out HW_.out (by kernel_rfl)) (fun _ _ _ h => h) (Or.inl ⟨by rfl, ?_⟩) hHeld ?_ ?_
      rotate_left
      ·rintro w' ⟨s0, s1, s2, s3, s4, s5, sM⟩
       go_simp
       with_reducible rfl
      rotate_left
      ·simp only [Act.put, List.setIfInBounds_toArray, List.set_cons_zero, List.set_cons_succ, i64_w, i32_w]
       rfl
      refine take_ (i := 27) (N := some 130) (v := ?_) (a' := ?_) #[true, true, true, true, true, true, true, true, true, true, true, true, true, true, true, true, true, true, true, true, true, true, true, true, true, true, true, true, false, false, false, false] rfl rfl (take_ofW HT_.out HW_.out (by kernel_rfl)) (fun _ _ _ h => h) (Or.inl ⟨by rfl, ?_⟩) hHeld ?_ ?_
      rotate_left
      ·rintro w' ⟨s0, s1, s2, s3, s4, s5, sM⟩
       go_simp
       with_reducible rfl
      rotate_left
      ·simp only [Act.put, List.setIfInBounds_toArray, List.set_cons_zero, List.set_cons_succ, i64_w, i32_w]
       rfl
      refine one_ (i := 28) (N := some 131) #[true, true, true, true, true, true, true, true, true, true, true, true, true, true, true, true, true, true, true, true, true, true, true, true, true, true, true, true, true, false, false, false] rfl rfl (one_of HT_.out (by kernel_rfl)) (by decide) (fun K hK => ?_)
      refine goes_ Try.func11 (by kernel_rfl) rfl #[.agg #[.int .i64 t245, .slice Ao35 t246.length co35], .agg #[.int .i64 t241, .slice Ao33 t242.length co33]] (by rfl) rfl rfl (by (try simp only [List.map_toArray, List.map_cons, List.map_nil]); first | done | rfl | (simp only [List.length_drop, List.length_take]; rfl)) ?_
      with_reducible refine (span_Join.calls k t245 _ _ t246 t241 _ _ t242 t262 t263 _ ?side1 ?side2 ?side3 ?side4 A52.out).mono ?_
      (case side1 => repeat (first | exact (Kd.R_reads' HO248.out).2.2 | (with_reducible refine Kd.C_alloc ?_ _) | (with_reducible refine Kd.C_drewN ?_ _) | (with_reducible refine Kd.C_drew ?_)))
      (case side2 => exact (Kd.R_reads' HO248.out).2.1)
      (case side3 => repeat (first | exact (Kd.R_reads' HO244.out).2.2 | (with_reducible refine Kd.C_alloc ?_ _) | (with_reducible refine Kd.C_drewN ?_ _) | (with_reducible refine Kd.C_drew ?_)))
      (case side4 => exact (Kd.R_reads' HO244.out).2.1)
      rintro e w59 ⟨v264, rfl, ho0, hb⟩
      refine ⟨_, rfl, ?_⟩
      have n0_ := Aside0.mk (Kd.R_elder' (by (with_reducible repeat (first | apply Kd.R_alloc | apply Kd.R_drewN | apply Kd.R_drew)); exact HO244.out) (Kd.R_base ho0) hb)
      have n1_ := Aside0.mk (Kd.R_elder' (by (with_reducible repeat (first | apply Kd.R_alloc | apply Kd.R_drewN | apply Kd.R_drew)); exact HO248.out) (Kd.R_base ho0) hb)
      have n2_ := Aside0.mk (Kd.R_elder' (by (with_reducible repeat (first | apply Kd.R_alloc | apply Kd.R_drewN | apply Kd.R_drew)); exact HO254.out) (Kd.R_base ho0) hb)
      have n3_ := Aside0.mk (Kd.R_below (by (with_reducible repeat (first | apply Kd.R_alloc | apply Kd.R_drewN | apply Kd.R_drew)); exact HO258.out) hb)
      have n4_ := Aside0.mk (Kd.R_lower (Kd.R_new' (Kd.R_new' (Kd.R_new' ho0 (Kd.R_lt (by (with_reducible repeat (first | apply Kd.R_alloc | apply Kd.R_drewN | apply Kd.R_drew)); exact HO244.out))) (Kd.R_lt (by (with_reducible repeat (first | apply Kd.R_alloc | apply Kd.R_drewN | apply Kd.R_drew)); exact HO248.out))) (Kd.R_lt (by (with_reducible repeat (first | apply Kd.R_alloc | apply Kd.R_drewN | apply Kd.R_drew)); exact HO254.out))) (below_size (by repeat (first | (with_reducible first | exact HB.out | apply below_alloc | apply pw_below_drewN | apply below_drew1 | refine below_set ?_ GE249.out | refine below_set ?_ GE250.out | refine below_set ?_ GE255.out) | exact HB.out))))
      have n5_ := Aside0.mk (blk_below (g := gb249) (o := .cells #[.int .i64 t241, .slice Ao33 t242.length co33] 31 (0, 0)) (by (with_reducible repeat (first | refine blk_drewN ?_ _ | refine blk_drew ?_ | refine blk_alloc ?_ _)); exact BK249.out) hb)
      have n6_ := Aside0.mk (blk_below (g := gb250) (o := .cells #[.int .i64 t245, .slice Ao35 t246.length co35] 31 (0, 0)) (by (with_reducible repeat (first | refine blk_drewN ?_ _ | refine blk_drew ?_ | refine blk_alloc ?_ _)); exact BK250.out) hb)
      have n7_ := Aside0.mk (blk_below (g := gb255) (o := .cells #[.int .i64 t251, .slice Ao41 t252.length co41] 31 (0, 0)) (by (with_reducible repeat (first | refine blk_drewN ?_ _ | refine blk_drew ?_ | refine blk_alloc ?_ _)); exact BK255.out) hb)
      have n8_ := Aside0.mk (below_step (by repeat (first | (with_reducible first | exact HB.out | apply below_alloc | apply pw_below_drewN | apply below_drew1 | refine below_set ?_ GE249.out | refine below_set ?_ GE250.out | refine below_set ?_ GE255.out) | exact HB.out)) hb)
      clear HO244
      clear HO248
      clear HO254
      clear HO258
      clear BK249
      clear BK250
      clear BK255
      clear HB
      have HO244 := n0_
      have HO248 := n1_
      have HO254 := n2_
      have HO258 := n3_
      have HO265 := n4_
      have BK249 := n5_
      have BK250 := n6_
      have BK255 := n7_
      have HB := n8_
      clear n0_ n1_ n2_ n3_ n4_ n5_ n6_ n7_ n8_
      (try clear hb)
      (try clear hb2)
      (try clear hk)
      (try clear hi)
      (try clear ho0)
      obtain ⟨Ao60, co60, eo60⟩ := Kd.R_slice HO265.out
      (first | subst eo60 | (injection eo60 with f1_ f2_ f3_; have f4_ := f1_.symm; have f5_ := f3_.symm; clear f1_ f2_ f3_; subst f4_; subst f5_))
      refine hK.out _ _ ⟨(blk_cell BK249.out 0).trans rfl, (blk_cell BK249.out 1).trans rfl, (blk_cell BK250.out 0).trans rfl, (blk_cell BK250.out 1).trans rfl, (blk_cell BK255.out 0).trans rfl, (blk_cell BK255.out 1).trans rfl, HMB.out _ HB.out⟩ (fun hHeld => ?_)
      clear hK K
      refine norm_ (a' := ?_) ?_ ?_
      rotate_left
      ·show Act.put _ (some 131) _ = _
       simp only [Act.put, List.setIfInBounds_toArray, List.set_cons_zero, List.set_cons_succ, i64_w, i32_w]
       rfl
      refine one_ (i := 29) (N := some 132) #[true, true, true, true, true, true, true, true, true, true, true, true, true, true, true, true, true, true, true, true, true, true, true, true, true, true, true, true, true, true, false, false] rfl rfl (one_of HT_.out (by kernel_rfl)) (by decide) (fun K hK => ?_)
      refine goes_ Try.func13 (by kernel_rfl) rfl #[.agg #[.int .i64 t251, .slice Ao41 t252.length co41], .agg #[.int .i64 t262, .slice Ao60 t263.length co60]] (by rfl) rfl rfl (by (try simp only [List.map_toArray, List.map_cons, List.map_nil]); first | done | rfl | (simp only [List.length_drop, List.length_take]; rfl)) ?_
      with_reducible refine (span_Same.calls k t251 _ _ t252 t262 _ _ t263 t266 _ ?side1 ?side2 ?side3 ?side4 A53.out).mono ?_
      (case side1 => repeat (first | exact (Kd.R_reads' HO254.out).2.2 | (with_reducible refine Kd.C_alloc ?_ _) | (with_reducible refine Kd.C_drewN ?_ _) | (with_reducible refine Kd.C_drew ?_)))
      (case side2 => exact (Kd.R_reads' HO254.out).2.1)
      (case side3 => repeat (first | exact (Kd.R_reads' HO265.out).2.2 | (with_reducible refine Kd.C_alloc ?_ _) | (with_reducible refine Kd.C_drewN ?_ _) | (with_reducible refine Kd.C_drew ?_)))
      (case side4 => exact (Kd.R_reads' HO265.out).2.1)
      rintro e w61 ⟨rfl, hb⟩
      refine ⟨_, rfl, ?_⟩
      have n0_ := Aside0.mk (Kd.R_below (by (with_reducible repeat (first | apply Kd.R_alloc | apply Kd.R_drewN | apply Kd.R_drew)); exact HO244.out) hb)
      have n1_ := Aside0.mk (Kd.R_below (by (with_reducible repeat (first | apply Kd.R_alloc | apply Kd.R_drewN | apply Kd.R_drew)); exact HO248.out) hb)
      have n2_ := Aside0.mk (Kd.R_below (by (with_reducible repeat (first | apply Kd.R_alloc | apply Kd.R_drewN | apply Kd.R_drew)); exact HO254.out) hb)
      have n3_ := Aside0.mk (Kd.R_below (by (with_reducible repeat (first | apply Kd.R_alloc | apply Kd.R_drewN | apply Kd.R_drew)); exact HO258.out) hb)
      have n4_ := Aside0.mk (Kd.R_below (by (with_reducible repeat (first | apply Kd.R_alloc | apply Kd.R_drewN | apply Kd.R_drew)); exact HO265.out) hb)
      have n5_ := Aside0.mk (blk_below (g := gb249) (o := .cells #[.int .i64 t241, .slice Ao33 t242.length co33] 31 (0, 0)) (by (with_reducible repeat (first | refine blk_drewN ?_ _ | refine blk_drew ?_ | refine blk_alloc ?_ _)); exact BK249.out) hb)
      have n6_ := Aside0.mk (blk_below (g := gb250) (o := .cells #[.int .i64 t245, .slice Ao35 t246.length co35] 31 (0, 0)) (by (with_reducible repeat (first | refine blk_drewN ?_ _ | refine blk_drew ?_ | refine blk_alloc ?_ _)); exact BK250.out) hb)
      have n7_ := Aside0.mk (blk_below (g := gb255) (o := .cells #[.int .i64 t251, .slice Ao41 t252.length co41] 31 (0, 0)) (by (with_reducible repeat (first | refine blk_drewN ?_ _ | refine blk_drew ?_ | refine blk_alloc ?_ _)); exact BK255.out) hb)
      have n8_ := Aside0.mk (below_step (by repeat (first | (with_reducible first | exact HB.out | apply below_alloc | apply pw_below_drewN | apply below_drew1 | refine below_set ?_ GE249.out | refine below_set ?_ GE250.out | refine below_set ?_ GE255.out) | exact HB.out)) hb)
      clear HO244
      clear HO248
      clear HO254
      clear HO258
      clear HO265
      clear BK249
      clear BK250
      clear BK255
      clear HB
      have HO244 := n0_
      have HO248 := n1_
      have HO254 := n2_
      have HO258 := n3_
      have HO265 := n4_
      have BK249 := n5_
      have BK250 := n6_
      have BK255 := n7_
      have HB := n8_
      clear n0_ n1_ n2_ n3_ n4_ n5_ n6_ n7_ n8_
      (try clear hb)
      (try clear hb2)
      (try clear hk)
      (try clear hi)
      refine hK.out _ _ ⟨(blk_cell BK249.out 0).trans rfl, (blk_cell BK249.out 1).trans rfl, (blk_cell BK250.out 0).trans rfl, (blk_cell BK250.out 1).trans rfl, (blk_cell BK255.out 0).trans rfl, (blk_cell BK255.out 1).trans rfl, HMB.out _ HB.out⟩ (fun hHeld => ?_)
      clear hK K
      refine norm_ (a' := ?_) ?_ ?_
      rotate_left
      ·show Act.put _ (some 132) _ = _
       simp only [Act.put, List.setIfInBounds_toArray, List.set_cons_zero, List.set_cons_succ, i64_w, i32_w]
       rfl
      refine pure_ (i := 30) (N := some 133) (v := ?_) (a' := ?_) #[true, true, true, true, true, true, true, true, true, true, true, true, true, true, true, true, true, true, true, true, true, true, true, true, true, true, true, true, true, true, true, false] rfl rfl (any_of HT_.out (by kernel_rfl)) (fun _ _ _ h => h) (Or.inl ⟨by rfl, ?_⟩) ?_ ?_
      rotate_left
      ·intro w'
       go_simp
       with_reducible rfl
      rotate_left
      ·simp only [Act.put, List.setIfInBounds_toArray, List.set_cons_zero, List.set_cons_succ, i64_w, i32_w]
       rfl
      refine pure_ (i := 31) (N := some 134) (v := ?_) (a' := ?_) #[true, true, true, true, true, true, true, true, true, true, true, true, true, true, true, true, true, true, true, true, true, true, true, true, true, true, true, true, true, true, true, true] rfl rfl (any_of HT_.out (by kernel_rfl)) (fun _ _ _ h => h) (Or.inl ⟨by rfl, ?_⟩) ?_ ?_
      rotate_left
      ·intro w'
       go_simp
       with_reducible rfl
      rotate_left
      ·simp only [Act.put, List.setIfInBounds_toArray, List.set_cons_zero, List.set_cons_succ, i64_w, i32_w]
       rfl
      refine done_ (done_of HT_.out (by kernel_rfl)) ?_
      try go_wp2
      go_meet
      case rel => exact ⟨_, (!t266), (by first | rfl | (simp; done) | (simp [*]; done) | (simp [*]; omega)), H', ⟨by first | omega | exact Nat.le_refl _⟩, ⟨by (with_reducible repeat (first | apply Kd.R_alloc | apply Kd.R_drewN | apply Kd.R_drew)); exact HO258.out⟩, ⟨by (with_reducible repeat (first | apply Kd.R_alloc | apply Kd.R_drewN | apply Kd.R_drew)); exact Kd.R_mono HO244.out (fun _ hk => ⟨hk.1.1.2, hk.1.2⟩)⟩, ⟨by (with_reducible repeat (first | apply Kd.R_alloc | apply Kd.R_drewN | apply Kd.R_drew)); exact Kd.R_mono HO248.out (fun _ hk => ⟨hk.1.1.2, hk.1.2⟩)⟩, ⟨by (with_reducible repeat (first | apply Kd.R_alloc | apply Kd.R_drewN | apply Kd.R_drew)); exact Kd.R_mono HO254.out (fun _ hk => ⟨hk.1.1.2, hk.1.2⟩)⟩, ⟨by (with_reducible repeat (first | refine blk_drewN ?_ _ | refine blk_drew ?_ | refine blk_alloc ?_ _)); exact BK249.out⟩, ⟨by (with_reducible repeat (first | refine blk_drewN ?_ _ | refine blk_drew ?_ | refine blk_alloc ?_ _)); exact BK250.out⟩, ⟨by (with_reducible repeat (first | refine blk_drewN ?_ _ | refine blk_drew ?_ | refine blk_alloc ?_ _)); exact BK255.out⟩, ⟨by repeat (first | (with_reducible first | exact HB.out | apply below_alloc | apply pw_below_drewN | apply below_drew1 | refine below_set ?_ GE249.out | refine below_set ?_ GE250.out | refine below_set ?_ GE255.out) | exact HB.out)⟩⟩
     ·replace c51 := Bool.eq_false_iff.mpr c51
      subst c51
      have H1 : (SJ.j0 k l11 l12 l14 t256 true t251 t252) = some r := by rw [if_neg (show ¬ (false = true) by decide)] at H; exact H
      clear H
      have H := H1
      clear H1
      have H' := Aside0.mk H
      clear H
      try go_wp2
      have n0_ := Aside0.mk (Kd.R_drew HO244.out)
      have n1_ := Aside0.mk (Kd.R_drew HO248.out)
      have n2_ := Aside0.mk (Kd.R_drew HO254.out)
      have n3_ := Aside0.mk (Kd.R_drew HO258.out)
      have n4_ := Aside0.mk (blk_drew BK249.out)
      have n5_ := Aside0.mk (blk_drew BK250.out)
      have n6_ := Aside0.mk (blk_drew BK255.out)
      have n7_ := Aside0.mk (below_drew1 HB.out)
      clear HO244
      clear HO248
      clear HO254
      clear HO258
      clear BK249
      clear BK250
      clear BK255
      clear HB
      have HO244 := n0_
      have HO248 := n1_
      have HO254 := n2_
      have HO258 := n3_
      have BK249 := n4_
      have BK250 := n5_
      have BK255 := n6_
      have HB := n7_
      clear n0_ n1_ n2_ n3_ n4_ n5_ n6_ n7_
      refine start_ (n := 32) (S := fun w' => w'.cell? ⟨gb249, 0, none⟩ = some (.int .i64 t241) ∧ w'.cell? ⟨gb249, 1, none⟩ = some (.slice Ao33 t242.length co33) ∧ w'.cell? ⟨gb250, 0, none⟩ = some (.int .i64 t245) ∧ w'.cell? ⟨gb250, 1, none⟩ = some (.slice Ao35 t246.length co35) ∧ w'.cell? ⟨gb255, 0, none⟩ = some (.int .i64 t251) ∧ w'.cell? ⟨gb255, 1, none⟩ = some (.slice Ao41 t252.length co41) ∧ w'.ownsMap Try.prog 3 (plainElem (H := Unit) Try.prog 3) mB nB D) (ds := []) #[false, false, false, false, false, false, false, false, false, false, false, false, false, false, false, false, false, false, false, false, false, false, false, false, false, false, false, false, false, false, false, false] (by kernel_rfl) rfl rfl ⟨(blk_cell BK249.out 0).trans rfl, (blk_cell BK249.out 1).trans rfl, (blk_cell BK250.out 0).trans rfl, (blk_cell BK250.out 1).trans rfl, (blk_cell BK255.out 0).trans rfl, (blk_cell BK255.out 1).trans rfl, HMB.out _ HB.out⟩ (fun hHeld => ?_); refine with_tabW SJ.tab24 SJ.bits24 (fun HT_ HW_ => ?_)
      generalize w42.drew = w62 at HO244 HO248 HO254 HO258 BK249 BK250 BK255 HB hHeld ⊢
      refine pure_ (i := 3) (N := some 106) (v := ?_) (a' := ?_) #[false, false, false, true, false, false, false, false, false, false, false, false, false, false, false, false, false, false, false, false, false, false, false, false, false, false, false, false, false, false, false, false] rfl rfl (any_of HT_.out (by kernel_rfl)) (fun _ _ _ h => h) (Or.inl ⟨by rfl, ?_⟩) ?_ ?_
      rotate_left
      ·intro w'
       go_simp
       with_reducible rfl
      rotate_left
      ·simp only [Act.put, List.setIfInBounds_toArray, List.set_cons_zero, List.set_cons_succ, i64_w, i32_w]
       rfl
      refine take_ (i := 0) (N := some 103) (v := ?_) (a' := ?_) #[true, false, false, true, false, false, false, false, false, false, false, false, false, false, false, false, false, false, false, false, false, false, false, false, false, false, false, false, false, false, false, false] rfl rfl (take_ofW HT_.out HW_.out (by kernel_rfl)) (fun _ _ _ h => h) (Or.inl ⟨by rfl, ?_⟩) hHeld ?_ ?_
      rotate_left
      ·rintro w' ⟨s0, s1, s2, s3, s4, s5, sM⟩
       go_simp
       with_reducible rfl
      rotate_left
      ·simp only [Act.put, List.setIfInBounds_toArray, List.set_cons_zero, List.set_cons_succ, i64_w, i32_w]
       rfl
      refine take_ (i := 1) (N := some 104) (v := ?_) (a' := ?_) #[true, true, false, true, false, false, false, false, false, false, false, false, false, false, false, false, false, false, false, false, false, false, false, false, false, false, false, false, false, false, false, false] rfl rfl (take_ofW HT_.out HW_.out (by kernel_rfl)) (fun _ _ _ h => h) (Or.inl ⟨by rfl, ?_⟩) hHeld ?_ ?_
      rotate_left
      ·rintro w' ⟨s0, s1, s2, s3, s4, s5, sM⟩
       go_simp
       with_reducible rfl
      rotate_left
      ·simp only [Act.put, List.setIfInBounds_toArray, List.set_cons_zero, List.set_cons_succ, i64_w, i32_w]
       rfl
      refine one_ (i := 2) (N := some 105) #[true, true, true, true, false, false, false, false, false, false, false, false, false, false, false, false, false, false, false, false, false, false, false, false, false, false, false, false, false, false, false, false] rfl rfl (one_of HT_.out (by kernel_rfl)) (by decide) (fun K hK => ?_)
      refine goes_ Try.func12 (by kernel_rfl) rfl #[.agg #[.int .i64 t241, .slice Ao33 t242.length co33], .agg #[.int .i64 t245, .slice Ao35 t246.length co35]] (by rfl) rfl rfl (by (try simp only [List.map_toArray, List.map_cons, List.map_nil]); first | done | rfl | (simp only [List.length_drop, List.length_take]; rfl)) ?_
      with_reducible refine (span_Has.calls k t241 _ _ t242 t245 _ _ t246 t259 _ ?side1 ?side2 ?side3 ?side4 A43.out).mono ?_
      (case side1 => repeat (first | exact (Kd.R_reads' HO244.out).2.2 | (with_reducible refine Kd.C_alloc ?_ _) | (with_reducible refine Kd.C_drewN ?_ _) | (with_reducible refine Kd.C_drew ?_)))
      (case side2 => exact (Kd.R_reads' HO244.out).2.1)
      (case side3 => repeat (first | exact (Kd.R_reads' HO248.out).2.2 | (with_reducible refine Kd.C_alloc ?_ _) | (with_reducible refine Kd.C_drewN ?_ _) | (with_reducible refine Kd.C_drew ?_)))
      (case side4 => exact (Kd.R_reads' HO248.out).2.1)
      rintro e w63 ⟨rfl, hb⟩
      refine ⟨_, rfl, ?_⟩
      have n0_ := Aside0.mk (Kd.R_below (by (with_reducible repeat (first | apply Kd.R_alloc | apply Kd.R_drewN | apply Kd.R_drew)); exact HO244.out) hb)
      have n1_ := Aside0.mk (Kd.R_below (by (with_reducible repeat (first | apply Kd.R_alloc | apply Kd.R_drewN | apply Kd.R_drew)); exact HO248.out) hb)
      have n2_ := Aside0.mk (Kd.R_below (by (with_reducible repeat (first | apply Kd.R_alloc | apply Kd.R_drewN | apply Kd.R_drew)); exact HO254.out) hb)
      have n3_ := Aside0.mk (Kd.R_below (by (with_reducible repeat (first | apply Kd.R_alloc | apply Kd.R_drewN | apply Kd.R_drew)); exact HO258.out) hb)
      have n4_ := Aside0.mk (blk_below (g := gb249) (o := .cells #[.int .i64 t241, .slice Ao33 t242.length co33] 31 (0, 0)) (by (with_reducible repeat (first | refine blk_drewN ?_ _ | refine blk_drew ?_ | refine blk_alloc ?_ _)); exact BK249.out) hb)
      have n5_ := Aside0.mk (blk_below (g := gb250) (o := .cells #[.int .i64 t245, .slice Ao35 t246.length co35] 31 (0, 0)) (by (with_reducible repeat (first | refine blk_drewN ?_ _ | refine blk_drew ?_ | refine blk_alloc ?_ _)); exact BK250.out) hb)
      have n6_ := Aside0.mk (blk_below (g := gb255) (o := .cells #[.int .i64 t251, .slice Ao41 t252.length co41] 31 (0, 0)) (by (with_reducible repeat (first | refine blk_drewN ?_ _ | refine blk_drew ?_ | refine blk_alloc ?_ _)); exact BK255.out) hb)
      have n7_ := Aside0.mk (below_step (by repeat (first | (with_reducible first | exact HB.out | apply below_alloc | apply pw_below_drewN | apply below_drew1 | refine below_set ?_ GE249.out | refine below_set ?_ GE250.out | refine below_set ?_ GE255.out) | exact HB.out)) hb)
      clear HO244
      clear HO248
      clear HO254
      clear HO258
      clear BK249
      clear BK250
      clear BK255
      clear HB
      have HO244 := n0_
      have HO248 := n1_
      have HO254 := n2_
      have HO258 := n3_
      have BK249 := n4_
      have BK250 := n5_
      have BK255 := n6_
      have HB := n7_
      clear n0_ n1_ n2_ n3_ n4_ n5_ n6_ n7_
      (try clear hb)
      (try clear hb2)
      (try clear hk)
      (try clear hi)
      obtain ⟨Ao64, co64, eo64⟩ := Kd.R_slice HO258.out
      (first | subst eo64 | (injection eo64 with f1_ f2_ f3_; have f4_ := f1_.symm; have f5_ := f3_.symm; clear f1_ f2_ f3_; subst f4_; subst f5_))
      refine hK.out _ _ ⟨(blk_cell BK249.out 0).trans rfl, (blk_cell BK249.out 1).trans rfl, (blk_cell BK250.out 0).trans rfl, (blk_cell BK250.out 1).trans rfl, (blk_cell BK255.out 0).trans rfl, (blk_cell BK255.out 1).trans rfl, HMB.out _ HB.out⟩ (fun hHeld => ?_)
      clear hK K
      refine norm_ (a' := ?_) ?_ ?_
      rotate_left
      ·show Act.put _ (some 105) _ = _
       simp only [Act.put, List.setIfInBounds_toArray, List.set_cons_zero, List.set_cons_succ, i64_w, i32_w]
       rfl
      refine pure_ (i := 4) (N := some 107) (v := ?_) (a' := ?_) #[true, true, true, true, true, false, false, false, false, false, false, false, false, false, false, false, false, false, false, false, false, false, false, false, false, false, false, false, false, false, false, false] rfl rfl (any_of HT_.out (by kernel_rfl)) (fun _ _ _ h => h) (Or.inl ⟨by rfl, ?_⟩) ?_ ?_
      rotate_left
      ·intro w'
       go_simp
       with_reducible rfl
      rotate_left
      ·simp only [Act.put, List.setIfInBounds_toArray, List.set_cons_zero, List.set_cons_succ, i64_w, i32_w]
       rfl
      refine pure_ (i := 5) (N := some 108) (v := ?_) (a' := ?_) #[true, true, true, true, true, true, false, false, false, false, false, false, false, false, false, false, false, false, false, false, false, false, false, false, false, false, false, false, false, false, false, false] rfl rfl (any_of HT_.out (by kernel_rfl)) (fun _ _ _ h => h) (Or.inl ⟨by rfl, ?_⟩) ?_ ?_
      rotate_left
      ·intro w'
       go_simp
       with_reducible rfl
      rotate_left
      ·simp only [Act.put, List.setIfInBounds_toArray, List.set_cons_zero, List.set_cons_succ, i64_w, i32_w]
       rfl
      refine pure_ (i := 6) (N := some 109) (v := ?_) (a' := ?_) #[true, true, true, true, true, true, true, false, false, false, false, false, false, false, false, false, false, false, false, false, false, false, false, false, false, false, false, false, false, false, false, false] rfl rfl (any_of HT_.out (by kernel_rfl)) (fun _ _ _ h => h) (Or.inl ⟨by rfl, ?_⟩) ?_ ?_
      rotate_left
      ·intro w'
       go_simp
       with_reducible rfl
      rotate_left
      ·simp only [Act.put, List.setIfInBounds_toArray, List.set_cons_zero, List.set_cons_succ, i64_w, i32_w]
       rfl
      refine pure_ (i := 7) (N := some 110) (v := ?_) (a' := ?_) #[true, true, true, true, true, true, true, true, false, false, false, false, false, false, false, false, false, false, false, false, false, false, false, false, false, false, false, false, false, false, false, false] rfl rfl (any_of HT_.out (by kernel_rfl)) (fun _ _ _ h => h) (Or.inl ⟨by rfl, ?_⟩) ?_ ?_
      rotate_left
      ·intro w'
       go_simp
       with_reducible rfl
      rotate_left
      ·simp only [Act.put, List.setIfInBounds_toArray, List.set_cons_zero, List.set_cons_succ, i64_w, i32_w]
       rfl
      refine pure_ (i := 8) (N := some 111) (v := ?_) (a' := ?_) #[true, true, true, true, true, true, true, true, true, false, false, false, false, false, false, false, false, false, false, false, false, false, false, false, false, false, false, false, false, false, false, false] rfl rfl (any_of HT_.out (by kernel_rfl)) (fun _ _ _ h => h) (Or.inl ⟨by rfl, ?_⟩) ?_ ?_
      rotate_left
      ·intro w'
       go_simp
       with_reducible rfl
      rotate_left
      ·simp only [Act.put, List.setIfInBounds_toArray, List.set_cons_zero, List.set_cons_succ, i64_w, i32_w]
       rfl
      refine take_ (i := 9) (N := some 112) (v := .int .i64 a16) (a' := ?_) #[true, true, true, true, true, true, true, true, true, true, false, false, false, false, false, false, false, false, false, false, false, false, false, false, false, false, false, false, false, false, false, false] rfl rfl (take_ofW HT_.out HW_.out (by kernel_rfl)) (fun _ _ _ h => h) (Or.inl ⟨by rfl, ?_⟩) hHeld ?_ ?_
      ·rintro w' ⟨s0, s1, s2, s3, s4, s5, sM⟩
       exact len_step sM HSZ.out _ rfl rfl
      rotate_left
      ·simp only [Act.put, List.setIfInBounds_toArray, List.set_cons_zero, List.set_cons_succ, i64_w, i32_w]
       rfl
      refine pure_ (i := 10) (N := some 113) (v := ?_) (a' := ?_) #[true, true, true, true, true, true, true, true, true, true, true, false, false, false, false, false, false, false, false, false, false, false, false, false, false, false, false, false, false, false, false, false] rfl rfl (any_of HT_.out (by kernel_rfl)) (fun _ _ _ h => h) (Or.inl ⟨by rfl, ?_⟩) ?_ ?_
      rotate_left
      ·intro w'
       go_simp
       with_reducible rfl
      rotate_left
      ·simp only [Act.put, List.setIfInBounds_toArray, List.set_cons_zero, List.set_cons_succ, i64_w, i32_w]
       rfl
      refine pure_ (i := 11) (N := some 114) (v := ?_) (a' := ?_) #[true, true, true, true, true, true, true, true, true, true, true, true, false, false, false, false, false, false, false, false, false, false, false, false, false, false, false, false, false, false, false, false] rfl rfl (any_of HT_.out (by kernel_rfl)) (fun _ _ _ h => h) (Or.inl ⟨by rfl, ?_⟩) ?_ ?_
      rotate_left
      ·intro w'
       go_simp
       with_reducible rfl
      rotate_left
      ·simp only [Act.put, List.setIfInBounds_toArray, List.set_cons_zero, List.set_cons_succ, i64_w, i32_w]
       rfl
      refine pure_ (i := 12) (N := some 115) (v := ?_) (a' := ?_) #[true, true, true, true, true, true, true, true, true, true, true, true, true, false, false, false, false, false, false, false, false, false, false, false, false, false, false, false, false, false, false, false] rfl rfl (any_of HT_.out (by kernel_rfl)) (fun _ _ _ h => h) (Or.inl ⟨by rfl, ?_⟩) ?_ ?_
      rotate_left
      ·intro w'
       go_simp
       with_reducible rfl
      rotate_left
      ·simp only [Act.put, List.setIfInBounds_toArray, List.set_cons_zero, List.set_cons_succ, i64_w, i32_w]
       rfl
      refine take_ (i := 13) (N := some 116) (v := ?_) (a' := ?_) #[true, true, true, true, true, true, true, true, true, true, true, true, true, true, false, false, false, false, false, false, false, false, false, false, false, false, false, false, false, false, false, false] rfl rfl (take_ofW HT_.out HW_.out (by kernel_rfl)) (fun _ _ _ h => h) (Or.inl ⟨by rfl, ?_⟩) hHeld ?_ ?_
      rotate_left
      ·rintro w' ⟨s0, s1, s2, s3, s4, s5, sM⟩
       go_simp
       with_reducible rfl
      rotate_left
      ·simp only [Act.put, List.setIfInBounds_toArray, List.set_cons_zero, List.set_cons_succ, i64_w, i32_w]
       rfl
      refine take_ (i := 14) (N := some 117) (v := ?_) (a' := ?_) #[true, true, true, true, true, true, true, true, true, true, true, true, true, true, true, false, false, false, false, false, false, false, false, false, false, false, false, false, false, false, false, false] rfl rfl (take_ofW HT_.out HW_.out (by kernel_rfl)) (fun _ _ _ h => h) (Or.inl ⟨by rfl, ?_⟩) hHeld ?_ ?_
      rotate_left
      ·rintro w' ⟨s0, s1, s2, s3, s4, s5, sM⟩
       go_simp
       with_reducible rfl
      rotate_left
      ·simp only [Act.put, List.setIfInBounds_toArray, List.set_cons_zero, List.set_cons_succ, i64_w, i32_w]
       rfl
      refine one_ (i := 15) (N := some 118) #[true, true, true, true, true, true, true, true, true, true, true, true, true, true, true, true, false, false, false, false, false, false, false, false, false, false, false, false, false, false, false, false] rfl rfl (one_of HT_.out (by kernel_rfl)) (by decide) (fun K hK => ?_)
      refine goes_ Try.func12 (by kernel_rfl) rfl #[.agg #[.int .i64 t251, .slice Ao41 t252.length co41], .agg #[.int .i64 t241, .slice Ao33 t242.length co33]] (by rfl) rfl rfl (by (try simp only [List.map_toArray, List.map_cons, List.map_nil]); first | done | rfl | (simp only [List.length_drop, List.length_take]; rfl)) ?_
      with_reducible refine (span_Has.calls k t251 _ _ t252 t241 _ _ t242 true _ ?side1 ?side2 ?side3 ?side4 A48.out).mono ?_
      (case side1 => repeat (first | exact (Kd.R_reads' HO254.out).2.2 | (with_reducible refine Kd.C_alloc ?_ _) | (with_reducible refine Kd.C_drewN ?_ _) | (with_reducible refine Kd.C_drew ?_)))
      (case side2 => exact (Kd.R_reads' HO254.out).2.1)
      (case side3 => repeat (first | exact (Kd.R_reads' HO244.out).2.2 | (with_reducible refine Kd.C_alloc ?_ _) | (with_reducible refine Kd.C_drewN ?_ _) | (with_reducible refine Kd.C_drew ?_)))
      (case side4 => exact (Kd.R_reads' HO244.out).2.1)
      rintro e w65 ⟨rfl, hb⟩
      refine ⟨_, rfl, ?_⟩
      have n0_ := Aside0.mk (Kd.R_below (by (with_reducible repeat (first | apply Kd.R_alloc | apply Kd.R_drewN | apply Kd.R_drew)); exact HO244.out) hb)
      have n1_ := Aside0.mk (Kd.R_below (by (with_reducible repeat (first | apply Kd.R_alloc | apply Kd.R_drewN | apply Kd.R_drew)); exact HO248.out) hb)
      have n2_ := Aside0.mk (Kd.R_below (by (with_reducible repeat (first | apply Kd.R_alloc | apply Kd.R_drewN | apply Kd.R_drew)); exact HO254.out) hb)
      have n3_ := Aside0.mk (Kd.R_below (by (with_reducible repeat (first | apply Kd.R_alloc | apply Kd.R_drewN | apply Kd.R_drew)); exact HO258.out) hb)
      have n4_ := Aside0.mk (blk_below (g := gb249) (o := .cells #[.int .i64 t241, .slice Ao33 t242.length co33] 31 (0, 0)) (by (with_reducible repeat (first | refine blk_drewN ?_ _ | refine blk_drew ?_ | refine blk_alloc ?_ _)); exact BK249.out) hb)
      have n5_ := Aside0.mk (blk_below (g := gb250) (o := .cells #[.int .i64 t245, .slice Ao35 t246.length co35] 31 (0, 0)) (by (with_reducible repeat (first | refine blk_drewN ?_ _ | refine blk_drew ?_ | refine blk_alloc ?_ _)); exact BK250.out) hb)
      have n6_ := Aside0.mk (blk_below (g := gb255) (o := .cells #[.int .i64 t251, .slice Ao41 t252.length co41] 31 (0, 0)) (by (with_reducible repeat (first | refine blk_drewN ?_ _ | refine blk_drew ?_ | refine blk_alloc ?_ _)); exact BK255.out) hb)
      have n7_ := Aside0.mk (below_step (by repeat (first | (with_reducible first | exact HB.out | apply below_alloc | apply pw_below_drewN | apply below_drew1 | refine below_set ?_ GE249.out | refine below_set ?_ GE250.out | refine below_set ?_ GE255.out) | exact HB.out)) hb)
      clear HO244
      clear HO248
      clear HO254
      clear HO258
      clear BK249
      clear BK250
      clear BK255
      clear HB
      have HO244 := n0_
      have HO248 := n1_
      have HO254 := n2_
      have HO258 := n3_
      have BK249 := n4_
      have BK250 := n5_
      have BK255 := n6_
      have HB := n7_
      clear n0_ n1_ n2_ n3_ n4_ n5_ n6_ n7_
      (try clear hb)
      (try clear hb2)
      (try clear hk)
      (try clear hi)
      refine hK.out _ _ ⟨(blk_cell BK249.out 0).trans rfl, (blk_cell BK249.out 1).trans rfl, (blk_cell BK250.out 0).trans rfl, (blk_cell BK250.out 1).trans rfl, (blk_cell BK255.out 0).trans rfl, (blk_cell BK255.out 1).trans rfl, HMB.out _ HB.out⟩ (fun hHeld => ?_)
      clear hK K
      refine norm_ (a' := ?_) ?_ ?_
      rotate_left
      ·show Act.put _ (some 118) _ = _
       simp only [Act.put, List.setIfInBounds_toArray, List.set_cons_zero, List.set_cons_succ, i64_w, i32_w]
       rfl
      refine pure_ (i := 16) (N := some 119) (v := ?_) (a' := ?_) #[true, true, true, true, true, true, true, true, true, true, true, true, true, true, true, true, true, false, false, false, false, false, false, false, false, false, false, false, false, false, false, false] rfl rfl (any_of HT_.out (by kernel_rfl)) (fun _ _ _ h => h) (Or.inl ⟨by rfl, ?_⟩) ?_ ?_
      rotate_left
      ·intro w'
       go_simp
       with_reducible rfl
      rotate_left
      ·simp only [Act.put, List.setIfInBounds_toArray, List.set_cons_zero, List.set_cons_succ, i64_w, i32_w]
       rfl
      refine pure_ (i := 17) (N := some 120) (v := ?_) (a' := ?_) #[true, true, true, true, true, true, true, true, true, true, true, true, true, true, true, true, true, true, false, false, false, false, false, false, false, false, false, false, false, false, false, false] rfl rfl (any_of HT_.out (by kernel_rfl)) (fun _ _ _ h => h) (Or.inl ⟨by rfl, ?_⟩) ?_ ?_
      rotate_left
      ·intro w'
       go_simp
       with_reducible rfl
      rotate_left
      ·simp only [Act.put, List.setIfInBounds_toArray, List.set_cons_zero, List.set_cons_succ, i64_w, i32_w]
       rfl
      refine pure_ (i := 18) (N := some 121) (v := ?_) (a' := ?_) #[true, true, true, true, true, true, true, true, true, true, true, true, true, true, true, true, true, true, true, false, false, false, false, false, false, false, false, false, false, false, false, false] rfl rfl (any_of HT_.out (by kernel_rfl)) (fun _ _ _ h => h) (Or.inl ⟨by rfl, ?_⟩) ?_ ?_
      rotate_left
      ·intro w'
       go_simp
       with_reducible rfl
      rotate_left
      ·simp only [Act.put, List.setIfInBounds_toArray, List.set_cons_zero, List.set_cons_succ, i64_w, i32_w]
       rfl
      refine take_ (i := 19) (N := some 122) (v := ?_) (a' := ?_) #[true, true, true, true, true, true, true, true, true, true, true, true, true, true, true, true, true, true, true, true, false, false, false, false, false, false, false, false, false, false, false, false] rfl rfl (take_ofW HT_.out HW_.out (by kernel_rfl)) (fun _ _ _ h => h) (Or.inl ⟨by rfl, ?_⟩) hHeld ?_ ?_
      rotate_left
      ·rintro w' ⟨s0, s1, s2, s3, s4, s5, sM⟩
       go_simp
       with_reducible rfl
      rotate_left
      ·simp only [Act.put, List.setIfInBounds_toArray, List.set_cons_zero, List.set_cons_succ, i64_w, i32_w]
       rfl
      refine take_ (i := 20) (N := some 123) (v := ?_) (a' := ?_) #[true, true, true, true, true, true, true, true, true, true, true, true, true, true, true, true, true, true, true, true, true, false, false, false, false, false, false, false, false, false, false, false] rfl rfl (take_ofW HT_.out HW_.out (by kernel_rfl)) (fun _ _ _ h => h) (Or.inl ⟨by rfl, ?_⟩) hHeld ?_ ?_
      rotate_left
      ·rintro w' ⟨s0, s1, s2, s3, s4, s5, sM⟩
       go_simp
       with_reducible rfl
      rotate_left
      ·simp only [Act.put, List.setIfInBounds_toArray, List.set_cons_zero, List.set_cons_succ, i64_w, i32_w]
       rfl
      refine one_ (i := 21) (N := some 124) #[true, true, true, true, true, true, true, true, true, true, true, true, true, true, true, true, true, true, true, true, true, true, false, false, false, false, false, false, false, false, false, false] rfl rfl (one_of HT_.out (by kernel_rfl)) (by decide) (fun K hK => ?_)
      refine goes_ Try.func12 (by kernel_rfl) rfl #[.agg #[.int .i64 t251, .slice Ao41 t252.length co41], .agg #[.int .i64 t245, .slice Ao35 t246.length co35]] (by rfl) rfl rfl (by (try simp only [List.map_toArray, List.map_cons, List.map_nil]); first | done | rfl | (simp only [List.length_drop, List.length_take]; rfl)) ?_
      with_reducible refine (span_Has.calls k t251 _ _ t252 t245 _ _ t246 false _ ?side1 ?side2 ?side3 ?side4 A50.out).mono ?_
      (case side1 => repeat (first | exact (Kd.R_reads' HO254.out).2.2 | (with_reducible refine Kd.C_alloc ?_ _) | (with_reducible refine Kd.C_drewN ?_ _) | (with_reducible refine Kd.C_drew ?_)))
      (case side2 => exact (Kd.R_reads' HO254.out).2.1)
      (case side3 => repeat (first | exact (Kd.R_reads' HO248.out).2.2 | (with_reducible refine Kd.C_alloc ?_ _) | (with_reducible refine Kd.C_drewN ?_ _) | (with_reducible refine Kd.C_drew ?_)))
      (case side4 => exact (Kd.R_reads' HO248.out).2.1)
      rintro e w66 ⟨rfl, hb⟩
      refine ⟨_, rfl, ?_⟩
      have n0_ := Aside0.mk (Kd.R_below (by (with_reducible repeat (first | apply Kd.R_alloc | apply Kd.R_drewN | apply Kd.R_drew)); exact HO244.out) hb)
      have n1_ := Aside0.mk (Kd.R_below (by (with_reducible repeat (first | apply Kd.R_alloc | apply Kd.R_drewN | apply Kd.R_drew)); exact HO248.out) hb)
      have n2_ := Aside0.mk (Kd.R_below (by (with_reducible repeat (first | apply Kd.R_alloc | apply Kd.R_drewN | apply Kd.R_drew)); exact HO254.out) hb)
      have n3_ := Aside0.mk (Kd.R_below (by (with_reducible repeat (first | apply Kd.R_alloc | apply Kd.R_drewN | apply Kd.R_drew)); exact HO258.out) hb)
      have n4_ := Aside0.mk (blk_below (g := gb249) (o := .cells #[.int .i64 t241, .slice Ao33 t242.length co33] 31 (0, 0)) (by (with_reducible repeat (first | refine blk_drewN ?_ _ | refine blk_drew ?_ | refine blk_alloc ?_ _)); exact BK249.out) hb)
      have n5_ := Aside0.mk (blk_below (g := gb250) (o := .cells #[.int .i64 t245, .slice Ao35 t246.length co35] 31 (0, 0)) (by (with_reducible repeat (first | refine blk_drewN ?_ _ | refine blk_drew ?_ | refine blk_alloc ?_ _)); exact BK250.out) hb)
      have n6_ := Aside0.mk (blk_below (g := gb255) (o := .cells #[.int .i64 t251, .slice Ao41 t252.length co41] 31 (0, 0)) (by (with_reducible repeat (first | refine blk_drewN ?_ _ | refine blk_drew ?_ | refine blk_alloc ?_ _)); exact BK255.out) hb)
      have n7_ := Aside0.mk (below_step (by repeat (first | (with_reducible first | exact HB.out | apply below_alloc | apply pw_below_drewN | apply below_drew1 | refine below_set ?_ GE249.out | refine below_set ?_ GE250.out | refine below_set ?_ GE255.out) | exact HB.out)) hb)
      clear HO244
      clear HO248
      clear HO254
      clear HO258
      clear BK249
      clear BK250
      clear BK255
      clear HB
      have HO244 := n0_
      have HO248 := n1_
      have HO254 := n2_
      have HO258 := n3_
      have BK249 := n4_
      have BK250 := n5_
      have BK255 := n6_
      have HB := n7_
      clear n0_ n1_ n2_ n3_ n4_ n5_ n6_ n7_
      (try clear hb)
      (try clear hb2)
      (try clear hk)
      (try clear hi)
      refine hK.out _ _ ⟨(blk_cell BK249.out 0).trans rfl, (blk_cell BK249.out 1).trans rfl, (blk_cell BK250.out 0).trans rfl, (blk_cell BK250.out 1).trans rfl, (blk_cell BK255.out 0).trans rfl, (blk_cell BK255.out 1).trans rfl, HMB.out _ HB.out⟩ (fun hHeld => ?_)
      clear hK K
      refine norm_ (a' := ?_) ?_ ?_
      rotate_left
      ·show Act.put _ (some 124) _ = _
       simp only [Act.put, List.setIfInBounds_toArray, List.set_cons_zero, List.set_cons_succ, i64_w, i32_w]
       rfl
      refine pure_ (i := 22) (N := some 125) (v := ?_) (a' := ?_) #[true, true, true, true, true, true, true, true, true, true, true, true, true, true, true, true, true, true, true, true, true, true, true, false, false, false, false, false, false, false, false, false] rfl rfl (any_of HT_.out (by kernel_rfl)) (fun _ _ _ h => h) (Or.inl ⟨by rfl, ?_⟩) ?_ ?_
      rotate_left
      ·intro w'
       go_simp
       with_reducible rfl
      rotate_left
      ·simp only [Act.put, List.setIfInBounds_toArray, List.set_cons_zero, List.set_cons_succ, i64_w, i32_w]
       rfl
      refine pure_ (i := 23) (N := some 126) (v := ?_) (a' := ?_) #[true, true, true, true, true, true, true, true, true, true, true, true, true, true, true, true, true, true, true, true, true, true, true, true, false, false, false, false, false, false, false, false] rfl rfl (any_of HT_.out (by kernel_rfl)) (fun _ _ _ h => h) (Or.inl ⟨by rfl, ?_⟩) ?_ ?_
      rotate_left
      ·intro w'
       go_simp
       with_reducible rfl
      rotate_left
      ·simp only [Act.put, List.setIfInBounds_toArray, List.set_cons_zero, List.set_cons_succ, i64_w, i32_w]
       rfl
      refine pure_ (i := 24) (N := some 127) (v := ?_) (a' := ?_) #[true, true, true, true, true, true, true, true, true, true, true, true, true, true, true, true, true, true, true, true, true, true, true, true, true, false, false, false, false, false, false, false] rfl rfl (any_of HT_.out (by kernel_rfl)) (fun _ _ _ h => h) (Or.inl ⟨by rfl, ?_⟩) ?_ ?_
      rotate_left
      ·intro w'
       go_simp
       with_reducible rfl
      rotate_left
      ·simp only [Act.put, List.setIfInBounds_toArray, List.set_cons_zero, List.set_cons_succ, i64_w, i32_w]
       rfl
      refine pure_ (i := 25) (N := some 128) (v := undef) (a' := ?_) #[true, true, true, true, true, true, true, true, true, true, true, true, true, true, true, true, true, true, true, true, true, true, true, true, true, true, false, false, false, false, false, false] rfl rfl (any_of HT_.out (by kernel_rfl)) (fun _ _ _ h => h) (Or.inr ⟨by rfl, rfl⟩) ?_ ?_
      rotate_left
      ·simp only [Act.put, List.setIfInBounds_toArray, List.set_cons_zero, List.set_cons_succ, i64_w, i32_w]
       rfl
      refine pure_ (i := 26) (N := some 129) (v := undef) (a' := ?_) #[true, true, true, true, true, true, true, true, true, true, true, true, true, true, true, true, true, true, true, true, true, true, true, true, true, true, true, false, false, false, false, false] rfl rfl (any_of HT_.out (by kernel_rfl)) (fun _ _ _ h => h) (Or.inr ⟨by rfl, rfl⟩) ?_ ?_
      rotate_left
      ·simp only [Act.put, List.setIfInBounds_toArray, List.set_cons_zero, List.set_cons_succ, i64_w, i32_w]
       rfl
      refine pure_ (i := 27) (N := some 130) (v := undef) (a' := ?_) #[true, true, true, true, true, true, true, true, true, true, true, true, true, true, true, true, true, true, true, true, true, true, true, true, true, true, true, true, false, false, false, false] rfl rfl (any_of HT_.out (by kernel_rfl)) (fun _ _ _ h => h) (Or.inr ⟨by rfl, rfl⟩) ?_ ?_
      rotate_left
      ·simp only [Act.put, List.setIfInBounds_toArray, List.set_cons_zero, List.set_cons_succ, i64_w, i32_w]
       rfl
      refine pure_ (i := 28) (N := some 131) (v := undef) (a' := ?_) #[true, true, true, true, true, true, true, true, true, true, true, true, true, true, true, true, true, true, true, true, true, true, true, true, true, true, true, true, true, false, false, false] rfl rfl (any_of HT_.out (by kernel_rfl)) (fun _ _ _ h => h) (Or.inr ⟨by rfl, rfl⟩) ?_ ?_
      rotate_left
      ·simp only [Act.put, List.setIfInBounds_toArray, List.set_cons_zero, List.set_cons_succ, i64_w, i32_w]
       rfl
      refine pure_ (i := 29) (N := some 132) (v := undef) (a' := ?_) #[true, true, true, true, true, true, true, true, true, true, true, true, true, true, true, true, true, true, true, true, true, true, true, true, true, true, true, true, true, true, false, false] rfl rfl (any_of HT_.out (by kernel_rfl)) (fun _ _ _ h => h) (Or.inr ⟨by rfl, rfl⟩) ?_ ?_
      rotate_left
      ·simp only [Act.put, List.setIfInBounds_toArray, List.set_cons_zero, List.set_cons_succ, i64_w, i32_w]
       rfl
      refine pure_ (i := 30) (N := some 133) (v := undef) (a' := ?_) #[true, true, true, true, true, true, true, true, true, true, true, true, true, true, true, true, true, true, true, true, true, true, true, true, true, true, true, true, true, true, true, false] rfl rfl (any_of HT_.out (by kernel_rfl)) (fun _ _ _ h => h) (Or.inr ⟨by rfl, rfl⟩) ?_ ?_
      rotate_left
      ·simp only [Act.put, List.setIfInBounds_toArray, List.set_cons_zero, List.set_cons_succ, i64_w, i32_w]
       rfl
      refine pure_ (i := 31) (N := some 134) (v := ?_) (a' := ?_) #[true, true, true, true, true, true, true, true, true, true, true, true, true, true, true, true, true, true, true, true, true, true, true, true, true, true, true, true, true, true, true, true] rfl rfl (any_of HT_.out (by kernel_rfl)) (fun _ _ _ h => h) (Or.inl ⟨by rfl, ?_⟩) ?_ ?_
      rotate_left
      ·intro w'
       go_simp
       with_reducible rfl
      rotate_left
      ·simp only [Act.put, List.setIfInBounds_toArray, List.set_cons_zero, List.set_cons_succ, i64_w, i32_w]
       rfl
      refine done_ (done_of HT_.out (by kernel_rfl)) ?_
      try go_wp2
      go_meet
      case rel => exact ⟨_, (true), (by first | rfl | (simp; done) | (simp [*]; done) | (simp [*]; omega)), H', ⟨by first | omega | exact Nat.le_refl _⟩, ⟨by (with_reducible repeat (first | apply Kd.R_alloc | apply Kd.R_drewN | apply Kd.R_drew)); exact HO258.out⟩, ⟨by (with_reducible repeat (first | apply Kd.R_alloc | apply Kd.R_drewN | apply Kd.R_drew)); exact Kd.R_mono HO244.out (fun _ hk => ⟨hk.1.2, hk.2⟩)⟩, ⟨by (with_reducible repeat (first | apply Kd.R_alloc | apply Kd.R_drewN | apply Kd.R_drew)); exact Kd.R_mono HO248.out (fun _ hk => ⟨hk.1.2, hk.2⟩)⟩, ⟨by (with_reducible repeat (first | apply Kd.R_alloc | apply Kd.R_drewN | apply Kd.R_drew)); exact Kd.R_mono HO254.out (fun _ hk => ⟨hk.1.2, hk.2⟩)⟩, ⟨by (with_reducible repeat (first | refine blk_drewN ?_ _ | refine blk_drew ?_ | refine blk_alloc ?_ _)); exact BK249.out⟩, ⟨by (with_reducible repeat (first | refine blk_drewN ?_ _ | refine blk_drew ?_ | refine blk_alloc ?_ _)); exact BK250.out⟩, ⟨by (with_reducible repeat (first | refine blk_drewN ?_ _ | refine blk_drew ?_ | refine blk_alloc ?_ _)); exact BK255.out⟩, ⟨by repeat (first | (with_reducible first | exact HB.out | apply below_alloc | apply pw_below_drewN | apply below_drew1 | refine below_set ?_ GE249.out | refine below_set ?_ GE250.out | refine below_set ?_ GE255.out) | exact HB.out)⟩⟩
    ·replace c49 := Bool.eq_false_iff.mpr c49
     subst c49
     have H1 : (SJ.j0 k l11 l12 l14 t256 true t251 t252) = some r := by rw [if_neg (show ¬ (false = true) by decide)] at H; exact H
     clear H
     have H := H1
     clear H1
     have H' := Aside0.mk H
     clear H
     try go_wp2
     have n0_ := Aside0.mk (Kd.R_drew HO244.out)
     have n1_ := Aside0.mk (Kd.R_drew HO248.out)
     have n2_ := Aside0.mk (Kd.R_drew HO254.out)
     have n3_ := Aside0.mk (Kd.R_drew HO258.out)
     have n4_ := Aside0.mk (blk_drew BK249.out)
     have n5_ := Aside0.mk (blk_drew BK250.out)
     have n6_ := Aside0.mk (blk_drew BK255.out)
     have n7_ := Aside0.mk (below_drew1 HB.out)
     clear HO244
     clear HO248
     clear HO254
     clear HO258
     clear BK249
     clear BK250
     clear BK255
     clear HB
     have HO244 := n0_
     have HO248 := n1_
     have HO254 := n2_
     have HO258 := n3_
     have BK249 := n4_
     have BK250 := n5_
     have BK255 := n6_
     have HB := n7_
     clear n0_ n1_ n2_ n3_ n4_ n5_ n6_ n7_
     refine start_ (n := 32) (S := fun w' => w'.cell? ⟨gb249, 0, none⟩ = some (.int .i64 t241) ∧ w'.cell? ⟨gb249, 1, none⟩ = some (.slice Ao33 t242.length co33) ∧ w'.cell? ⟨gb250, 0, none⟩ = some (.int .i64 t245) ∧ w'.cell? ⟨gb250, 1, none⟩ = some (.slice Ao35 t246.length co35) ∧ w'.cell? ⟨gb255, 0, none⟩ = some (.int .i64 t251) ∧ w'.cell? ⟨gb255, 1, none⟩ = some (.slice Ao41 t252.length co41) ∧ w'.ownsMap Try.prog 3 (plainElem (H := Unit) Try.prog 3) mB nB D) (ds := []) #[false, false, false, false, false, false, false, false, false, false, false, false, false, false, false, false, false, false, false, false, false, false, false, false, false, false, false, false, false, false, false, false] (by kernel_rfl) rfl rfl ⟨(blk_cell BK249.out 0).trans rfl, (blk_cell BK249.out 1).trans rfl, (blk_cell BK250.out 0).trans rfl, (blk_cell BK250.out 1).trans rfl, (blk_cell BK255.out 0).trans rfl, (blk_cell BK255.out 1).trans rfl, HMB.out _ HB.out⟩ (fun hHeld => ?_); refine with_tabW SJ.tab24 SJ.bits24 (fun HT_ HW_ => ?_)
     generalize w42.drew = w67 at HO244 HO248 HO254 HO258 BK249 BK250 BK255 HB hHeld ⊢
     refine pure_ (i := 3) (N := some 106) (v := ?_) (a' := ?_) #[false, false, false, true, false, false, false, false, false, false, false, false, false, false, false, false, false, false, false, false, false, false, false, false, false, false, false, false, false, false, false, false] rfl rfl (any_of HT_.out (by kernel_rfl)) (fun _ _ _ h => h) (Or.inl ⟨by rfl, ?_⟩) ?_ ?_
     rotate_left
     ·intro w'
      go_simp
      with_reducible rfl
     rotate_left
     ·simp only [Act.put, List.setIfInBounds_toArray, List.set_cons_zero, List.set_cons_succ, i64_w, i32_w]
      rfl
     refine take_ (i := 0) (N := some 103) (v := ?_) (a' := ?_) #[true, false, false, true, false, false, false, false, false, false, false, false, false, false, false, false, false, false, false, false, false, false, false, false, false, false, false, false, false, false, false, false] rfl rfl (take_ofW HT_.out HW_.out (by kernel_rfl)) (fun _ _ _ h => h) (Or.inl ⟨by rfl, ?_⟩) hHeld ?_ ?_
     rotate_left
     ·rintro w' ⟨s0, s1, s2, s3, s4, s5, sM⟩
      go_simp
      with_reducible rfl
     rotate_left
     ·simp only [Act.put, List.setIfInBounds_toArray, List.set_cons_zero, List.set_cons_succ, i64_w, i32_w]
      rfl
     refine take_ (i := 1) (N := some 104) (v := ?_) (a' := ?_) #[true, true, false, true, false, false, false, false, false, false, false, false, false, false, false, false, false, false, false, false, false, false, false, false, false, false, false, false, false, false, false, false] rfl rfl (take_ofW HT_.out HW_.out (by kernel_rfl)) (fun _ _ _ h => h) (Or.inl ⟨by rfl, ?_⟩) hHeld ?_ ?_
     rotate_left
     ·rintro w' ⟨s0, s1, s2, s3, s4, s5, sM⟩
      go_simp
      with_reducible rfl
     rotate_left
     ·simp only [Act.put, List.setIfInBounds_toArray, List.set_cons_zero, List.set_cons_succ, i64_w, i32_w]
      rfl
     refine one_ (i := 2) (N := some 105) #[true, true, true, true, false, false, false, false, false, false, false, false, false, false, false, false, false, false, false, false, false, false, false, false, false, false, false, false, false, false, false, false] rfl rfl (one_of HT_.out (by kernel_rfl)) (by decide) (fun K hK => ?_)
     refine goes_ Try.func12 (by kernel_rfl) rfl #[.agg #[.int .i64 t241, .slice Ao33 t242.length co33], .agg #[.int .i64 t245, .slice Ao35 t246.length co35]] (by rfl) rfl rfl (by (try simp only [List.map_toArray, List.map_cons, List.map_nil]); first | done | rfl | (simp only [List.length_drop, List.length_take]; rfl)) ?_
     with_reducible refine (span_Has.calls k t241 _ _ t242 t245 _ _ t246 t259 _ ?side1 ?side2 ?side3 ?side4 A43.out).mono ?_
     (case side1 => repeat (first | exact (Kd.R_reads' HO244.out).2.2 | (with_reducible refine Kd.C_alloc ?_ _) | (with_reducible refine Kd.C_drewN ?_ _) | (with_reducible refine Kd.C_drew ?_)))
     (case side2 => exact (Kd.R_reads' HO244.out).2.1)
     (case side3 => repeat (first | exact (Kd.R_reads' HO248.out).2.2 | (with_reducible refine Kd.C_alloc ?_ _) | (with_reducible refine Kd.C_drewN ?_ _) | (with_reducible refine Kd.C_drew ?_)))
     (case side4 => exact (Kd.R_reads' HO248.out).2.1)
     rintro e w68 ⟨rfl, hb⟩
     refine ⟨_, rfl, ?_⟩
     have n0_ := Aside0.mk (Kd.R_below (by (with_reducible repeat (first | apply Kd.R_alloc | apply Kd.R_drewN | apply Kd.R_drew)); exact HO244.out) hb)
     have n1_ := Aside0.mk (Kd.R_below (by (with_reducible repeat (first | apply Kd.R_alloc | apply Kd.R_drewN | apply Kd.R_drew)); exact HO248.out) hb)
     have n2_ := Aside0.mk (Kd.R_below (by (with_reducible repeat (first | apply Kd.R_alloc | apply Kd.R_drewN | apply Kd.R_drew)); exact HO254.out) hb)
     have n3_ := Aside0.mk (Kd.R_below (by (with_reducible repeat (first | apply Kd.R_alloc | apply Kd.R_drewN | apply Kd.R_drew)); exact HO258.out) hb)
     have n4_ := Aside0.mk (blk_below (g := gb249) (o := .cells #[.int .i64 t241, .slice Ao33 t242.length co33] 31 (0, 0)) (by (with_reducible repeat (first | refine blk_drewN ?_ _ | refine blk_drew ?_ | refine blk_alloc ?_ _)); exact BK249.out) hb)
     have n5_ := Aside0.mk (blk_below (g := gb250) (o := .cells #[.int .i64 t245, .slice Ao35 t246.length co35] 31 (0, 0)) (by (with_reducible repeat (first | refine blk_drewN ?_ _ | refine blk_drew ?_ | refine blk_alloc ?_ _)); exact BK250.out) hb)
     have n6_ := Aside0.mk (blk_below (g := gb255) (o := .cells #[.int .i64 t251, .slice Ao41 t252.length co41] 31 (0, 0)) (by (with_reducible repeat (first | refine blk_drewN ?_ _ | refine blk_drew ?_ | refine blk_alloc ?_ _)); exact BK255.out) hb)
     have n7_ := Aside0.mk (below_step (by repeat (first | (with_reducible first | exact HB.out | apply below_alloc | apply pw_below_drewN | apply below_drew1 | refine below_set ?_ GE249.out | refine below_set ?_ GE250.out | refine below_set ?_ GE255.out) | exact HB.out)) hb)
     clear HO244
     clear HO248
     clear HO254
     clear HO258
     clear BK249
     clear BK250
     clear BK255
     clear HB
     have HO244 := n0_
     have HO248 := n1_
     have HO254 := n2_
     have HO258 := n3_
     have BK249 := n4_
     have BK250 := n5_
     have BK255 := n6_
     have HB := n7_
     clear n0_ n1_ n2_ n3_ n4_ n5_ n6_ n7_
     (try clear hb)
     (try clear hb2)
     (try clear hk)
     (try clear hi)
     obtain ⟨Ao69, co69, eo69⟩ := Kd.R_slice HO258.out
     (first | subst eo69 | (injection eo69 with f1_ f2_ f3_; have f4_ := f1_.symm; have f5_ := f3_.symm; clear f1_ f2_ f3_; subst f4_; subst f5_))
     refine hK.out _ _ ⟨(blk_cell BK249.out 0).trans rfl, (blk_cell BK249.out 1).trans rfl, (blk_cell BK250.out 0).trans rfl, (blk_cell BK250.out 1).trans rfl, (blk_cell BK255.out 0).trans rfl, (blk_cell BK255.out 1).trans rfl, HMB.out _ HB.out⟩ (fun hHeld => ?_)
     clear hK K
     refine norm_ (a' := ?_) ?_ ?_
     rotate_left
     ·show Act.put _ (some 105) _ = _
      simp only [Act.put, List.setIfInBounds_toArray, List.set_cons_zero, List.set_cons_succ, i64_w, i32_w]
      rfl
     refine pure_ (i := 4) (N := some 107) (v := ?_) (a' := ?_) #[true, true, true, true, true, false, false, false, false, false, false, false, false, false, false, false, false, false, false, false, false, false, false, false, false, false, false, false, false, false, false, false] rfl rfl (any_of HT_.out (by kernel_rfl)) (fun _ _ _ h => h) (Or.inl ⟨by rfl, ?_⟩) ?_ ?_
     rotate_left
     ·intro w'
      go_simp
      with_reducible rfl
     rotate_left
     ·simp only [Act.put, List.setIfInBounds_toArray, List.set_cons_zero, List.set_cons_succ, i64_w, i32_w]
      rfl
     refine pure_ (i := 5) (N := some 108) (v := ?_) (a' := ?_) #[true, true, true, true, true, true, false, false, false, false, false, false, false, false, false, false, false, false, false, false, false, false, false, false, false, false, false, false, false, false, false, false] rfl rfl (any_of HT_.out (by kernel_rfl)) (fun _ _ _ h => h) (Or.inl ⟨by rfl, ?_⟩) ?_ ?_
     rotate_left
     ·intro w'
      go_simp
      with_reducible rfl
     rotate_left
     ·simp only [Act.put, List.setIfInBounds_toArray, List.set_cons_zero, List.set_cons_succ, i64_w, i32_w]
      rfl
     refine pure_ (i := 6) (N := some 109) (v := ?_) (a' := ?_) #[true, true, true, true, true, true, true, false, false, false, false, false, false, false, false, false, false, false, false, false, false, false, false, false, false, false, false, false, false, false, false, false] rfl rfl (any_of HT_.out (by kernel_rfl)) (fun _ _ _ h => h) (Or.inl ⟨by rfl, ?_⟩) ?_ ?_
     rotate_left
     ·intro w'
      go_simp
      with_reducible rfl
     rotate_left
     ·simp only [Act.put, List.setIfInBounds_toArray, List.set_cons_zero, List.set_cons_succ, i64_w, i32_w]
      rfl
     refine pure_ (i := 7) (N := some 110) (v := ?_) (a' := ?_) #[true, true, true, true, true, true, true, true, false, false, false, false, false, false, false, false, false, false, false, false, false, false, false, false, false, false, false, false, false, false, false, false] rfl rfl (any_of HT_.out (by kernel_rfl)) (fun _ _ _ h => h) (Or.inl ⟨by rfl, ?_⟩) ?_ ?_
     rotate_left
     ·intro w'
      go_simp
      with_reducible rfl
     rotate_left
     ·simp only [Act.put, List.setIfInBounds_toArray, List.set_cons_zero, List.set_cons_succ, i64_w, i32_w]
      rfl
     refine pure_ (i := 8) (N := some 111) (v := ?_) (a' := ?_) #[true, true, true, true, true, true, true, true, true, false, false, false, false, false, false, false, false, false, false, false, false, false, false, false, false, false, false, false, false, false, false, false] rfl rfl (any_of HT_.out (by kernel_rfl)) (fun _ _ _ h => h) (Or.inl ⟨by rfl, ?_⟩) ?_ ?_
     rotate_left
     ·intro w'
      go_simp
      with_reducible rfl
     rotate_left
     ·simp only [Act.put, List.setIfInBounds_toArray, List.set_cons_zero, List.set_cons_succ, i64_w, i32_w]
      rfl
     refine take_ (i := 9) (N := some 112) (v := .int .i64 a16) (a' := ?_) #[true, true, true, true, true, true, true, true, true, true, false, false, false, false, false, false, false, false, false, false, false, false, false, false, false, false, false, false, false, false, false, false] rfl rfl (take_ofW HT_.out HW_.out (by kernel_rfl)) (fun _ _ _ h => h) (Or.inl ⟨by rfl, ?_⟩) hHeld ?_ ?_
     ·rintro w' ⟨s0, s1, s2, s3, s4, s5, sM⟩
      exact len_step sM HSZ.out _ rfl rfl
     rotate_left
     ·simp only [Act.put, List.setIfInBounds_toArray, List.set_cons_zero, List.set_cons_succ, i64_w, i32_w]
      rfl
     refine pure_ (i := 10) (N := some 113) (v := ?_) (a' := ?_) #[true, true, true, true, true, true, true, true, true, true, true, false, false, false, false, false, false, false, false, false, false, false, false, false, false, false, false, false, false, false, false, false] rfl rfl (any_of HT_.out (by kernel_rfl)) (fun _ _ _ h => h) (Or.inl ⟨by rfl, ?_⟩) ?_ ?_
     rotate_left
     ·intro w'
      go_simp
      with_reducible rfl
     rotate_left
     ·simp only [Act.put, List.setIfInBounds_toArray, List.set_cons_zero, List.set_cons_succ, i64_w, i32_w]
      rfl
     refine pure_ (i := 11) (N := some 114) (v := ?_) (a' := ?_) #[true, true, true, true, true, true, true, true, true, true, true, true, false, false, false, false, false, false, false, false, false, false, false, false, false, false, false, false, false, false, false, false] rfl rfl (any_of HT_.out (by kernel_rfl)) (fun _ _ _ h => h) (Or.inl ⟨by rfl, ?_⟩) ?_ ?_
     rotate_left
     ·intro w'
      go_simp
      with_reducible rfl
     rotate_left
     ·simp only [Act.put, List.setIfInBounds_toArray, List.set_cons_zero, List.set_cons_succ, i64_w, i32_w]
      rfl
     refine pure_ (i := 12) (N := some 115) (v := ?_) (a' := ?_) #[true, true, true, true, true, true, true, true, true, true, true, true, true, false, false, false, false, false, false, false, false, false, false, false, false, false, false, false, false, false, false, false] rfl rfl (any_of HT_.out (by kernel_rfl)) (fun _ _ _ h => h) (Or.inl ⟨by rfl, ?_⟩) ?_ ?_
     rotate_left
     ·intro w'
      go_simp
      with_reducible rfl
     rotate_left
     ·simp only [Act.put, List.setIfInBounds_toArray, List.set_cons_zero, List.set_cons_succ, i64_w, i32_w]
      rfl
     refine take_ (i := 13) (N := some 116) (v := ?_) (a' := ?_) #[true, true, true, true, true, true, true, true, true, true, true, true, true, true, false, false, false, false, false, false, false, false, false, false, false, false, false, false, false, false, false, false] rfl rfl (take_ofW HT_.out HW_.out (by kernel_rfl)) (fun _ _ _ h => h) (Or.inl ⟨by rfl, ?_⟩) hHeld ?_ ?_
     rotate_left
     ·rintro w' ⟨s0, s1, s2, s3, s4, s5, sM⟩
      go_simp
      with_reducible rfl
     rotate_left
     ·simp only [Act.put, List.setIfInBounds_toArray, List.set_cons_zero, List.set_cons_succ, i64_w, i32_w]
      rfl
     refine take_ (i := 14) (N := some 117) (v := ?_) (a' := ?_) #[true, true, true, true, true, true, true, true, true, true, true, true, true, true, true, false, false, false, false, false, false, false, false, false, false, false, false, false, false, false, false, false] rfl rfl (take_ofW HT_.out HW_.out (by kernel_rfl)) (fun _ _ _ h => h) (Or.inl ⟨by rfl, ?_⟩) hHeld ?_ ?_
     rotate_left
     ·rintro w' ⟨s0, s1, s2, s3, s4, s5, sM⟩
      go_simp
      with_reducible rfl
     rotate_left
     ·simp only [Act.put, List.setIfInBounds_toArray, List.set_cons_zero, List.set_cons_succ, i64_w, i32_w]
      rfl
     refine one_ (i := 15) (N := some 118) #[true, true, true, true, true, true, true, true, true, true, true, true, true, true, true, true, false, false, false, false, false, false, false, false, false, false, false, false, false, false, false, false] rfl rfl (one_of HT_.out (by kernel_rfl)) (by decide) (fun K hK => ?_)
     refine goes_ Try.func12 (by kernel_rfl) rfl #[.agg #[.int .i64 t251, .slice Ao41 t252.length co41], .agg #[.int .i64 t241, .slice Ao33 t242.length co33]] (by rfl) rfl rfl (by (try simp only [List.map_toArray, List.map_cons, List.map_nil]); first | done | rfl | (simp only [List.length_drop, List.length_take]; rfl)) ?_
     with_reducible refine (span_Has.calls k t251 _ _ t252 t241 _ _ t242 false _ ?side1 ?side2 ?side3 ?side4 A48.out).mono ?_
     (case side1 => repeat (first | exact (Kd.R_reads' HO254.out).2.2 | (with_reducible refine Kd.C_alloc ?_ _) | (with_reducible refine Kd.C_drewN ?_ _) | (with_reducible refine Kd.C_drew ?_)))
     (case side2 => exact (Kd.R_reads' HO254.out).2.1)
     (case side3 => repeat (first | exact (Kd.R_reads' HO244.out).2.2 | (with_reducible refine Kd.C_alloc ?_ _) | (with_reducible refine Kd.C_drewN ?_ _) | (with_reducible refine Kd.C_drew ?_)))
     (case side4 => exact (Kd.R_reads' HO244.out).2.1)
     rintro e w70 ⟨rfl, hb⟩
     refine ⟨_, rfl, ?_⟩
     have n0_ := Aside0.mk (Kd.R_below (by (with_reducible repeat (first | apply Kd.R_alloc | apply Kd.R_drewN | apply Kd.R_drew)); exact HO244.out) hb)
     have n1_ := Aside0.mk (Kd.R_below (by (with_reducible repeat (first | apply Kd.R_alloc | apply Kd.R_drewN | apply Kd.R_drew)); exact HO248.out) hb)
     have n2_ := Aside0.mk (Kd.R_below (by (with_reducible repeat (first | apply Kd.R_alloc | apply Kd.R_drewN | apply Kd.R_drew)); exact HO254.out) hb)
     have n3_ := Aside0.mk (Kd.R_below (by (with_reducible repeat (first | apply Kd.R_alloc | apply Kd.R_drewN | apply Kd.R_drew)); exact HO258.out) hb)
     have n4_ := Aside0.mk (blk_below (g := gb249) (o := .cells #[.int .i64 t241, .slice Ao33 t242.length co33] 31 (0, 0)) (by (with_reducible repeat (first | refine blk_drewN ?_ _ | refine blk_drew ?_ | refine blk_alloc ?_ _)); exact BK249.out) hb)
     have n5_ := Aside0.mk (blk_below (g := gb250) (o := .cells #[.int .i64 t245, .slice Ao35 t246.length co35] 31 (0, 0)) (by (with_reducible repeat (first | refine blk_drewN ?_ _ | refine blk_drew ?_ | refine blk_alloc ?_ _)); exact BK250.out) hb)
     have n6_ := Aside0.mk (blk_below (g := gb255) (o := .cells #[.int .i64 t251, .slice Ao41 t252.length co41] 31 (0, 0)) (by (with_reducible repeat (first | refine blk_drewN ?_ _ | refine blk_drew ?_ | refine blk_alloc ?_ _)); exact BK255.out) hb)
     have n7_ := Aside0.mk (below_step (by repeat (first | (with_reducible first | exact HB.out | apply below_alloc | apply pw_below_drewN | apply below_drew1 | refine below_set ?_ GE249.out | refine below_set ?_ GE250.out | refine below_set ?_ GE255.out) | exact HB.out)) hb)
     clear HO244
     clear HO248
     clear HO254
     clear HO258
     clear BK249
     clear BK250
     clear BK255
     clear HB
     have HO244 := n0_
     have HO248 := n1_
     have HO254 := n2_
     have HO258 := n3_
     have BK249 := n4_
     have BK250 := n5_
     have BK255 := n6_
     have HB := n7_
     clear n0_ n1_ n2_ n3_ n4_ n5_ n6_ n7_
     (try clear hb)
     (try clear hb2)
     (try clear hk)
     (try clear hi)
     refine hK.out _ _ ⟨(blk_cell BK249.out 0).trans rfl, (blk_cell BK249.out 1).trans rfl, (blk_cell BK250.out 0).trans rfl, (blk_cell BK250.out 1).trans rfl, (blk_cell BK255.out 0).trans rfl, (blk_cell BK255.out 1).trans rfl, HMB.out _ HB.out⟩ (fun hHeld => ?_)
     clear hK K
     refine norm_ (a' := ?_) ?_ ?_
     rotate_left
     ·show Act.put _ (some 118) _ = _
      simp only [Act.put, List.setIfInBounds_toArray, List.set_cons_zero, List.set_cons_succ, i64_w, i32_w]
      rfl
     refine pure_ (i := 16) (N := some 119) (v := ?_) (a' := ?_) #[true, true, true, true, true, true, true, true, true, true, true, true, true, true, true, true, true, false, false, false, false, false, false, false, false, false, false, false, false, false, false, false] rfl rfl (any_of HT_.out (by kernel_rfl)) (fun _ _ _ h => h) (Or.inl ⟨by rfl, ?_⟩) ?_ ?_
     rotate_left
     ·intro w'
      go_simp
      with_reducible rfl
     rotate_left
     ·simp only [Act.put, List.setIfInBounds_toArray, List.set_cons_zero, List.set_cons_succ, i64_w, i32_w]
      rfl
     refine pure_ (i := 17) (N := some 120) (v := ?_) (a' := ?_) #[true, true, true, true, true, true, true, true, true, true, true, true, true, true, true, true, true, true, false, false, false, false, false, false, false, false, false, false, false, false, false, false] rfl rfl (any_of HT_.out (by kernel_rfl)) (fun _ _ _ h => h) (Or.inl ⟨by rfl, ?_⟩) ?_ ?_
     rotate_left
     ·intro w'
      go_simp
      with_reducible rfl
     rotate_left
     ·simp only [Act.put, List.setIfInBounds_toArray, List.set_cons_zero, List.set_cons_succ, i64_w, i32_w]
      rfl
     refine pure_ (i := 18) (N := some 121) (v := ?_) (a' := ?_) #[true, true, true, true, true, true, true, true, true, true, true, true, true, true, true, true, true, true, true, false, false, false, false, false, false, false, false, false, false, false, false, false] rfl rfl (any_of HT_.out (by kernel_rfl)) (fun _ _ _ h => h) (Or.inl ⟨by rfl, ?_⟩) ?_ ?_
     rotate_left
     ·intro w'
      go_simp
      with_reducible rfl
     rotate_left
     ·simp only [Act.put, List.setIfInBounds_toArray, List.set_cons_zero, List.set_cons_succ, i64_w, i32_w]
      rfl
     refine pure_ (i := 19) (N := some 122) (v := undef) (a' := ?_) #[true, true, true, true, true, true, true, true, true, true, true, true, true, true, true, true, true, true, true, true, false, false, false, false, false, false, false, false, false, false, false, false] rfl rfl (any_of HT_.out (by kernel_rfl)) (fun _ _ _ h => h) (Or.inr ⟨by rfl, rfl⟩) ?_ ?_
     rotate_left
     ·simp only [Act.put, List.setIfInBounds_toArray, List.set_cons_zero, List.set_cons_succ, i64_w, i32_w]
      rfl
     refine pure_ (i := 20) (N := some 123) (v := undef) (a' := ?_) #[true, true, true, true, true, true, true, true, true, true, true, true, true, true, true, true, true, true, true, true, true, false, false, false, false, false, false, false, false, false, false, false] rfl rfl (any_of HT_.out (by kernel_rfl)) (fun _ _ _ h => h) (Or.inr ⟨by rfl, rfl⟩) ?_ ?_
     rotate_left
     ·simp only [Act.put, List.setIfInBounds_toArray, List.set_cons_zero, List.set_cons_succ, i64_w, i32_w]
      rfl
     refine pure_ (i := 21) (N := some 124) (v := undef) (a' := ?_) #[true, true, true, true, true, true, true, true, true, true, true, true, true, true, true, true, true, true, true, true, true, true, false, false, false, false, false, false, false, false, false, false] rfl rfl (any_of HT_.out (by kernel_rfl)) (fun _ _ _ h => h) (Or.inr ⟨by rfl, rfl⟩) ?_ ?_
     rotate_left
     ·simp only [Act.put, List.setIfInBounds_toArray, List.set_cons_zero, List.set_cons_succ, i64_w, i32_w]
      rfl
     refine pure_ (i := 22) (N := some 125) (v := undef) (a' := ?_) #[true, true, true, true, true, true, true, true, true, true, true, true, true, true, true, true, true, true, true, true, true, true, true, false, false, false, false, false, false, false, false, false] rfl rfl (any_of HT_.out (by kernel_rfl)) (fun _ _ _ h => h) (Or.inr ⟨by rfl, rfl⟩) ?_ ?_
     rotate_left
     ·simp only [Act.put, List.setIfInBounds_toArray, List.set_cons_zero, List.set_cons_succ, i64_w, i32_w]
      rfl
     refine pure_ (i := 23) (N := some 126) (v := ?_) (a' := ?_) #[true, true, true, true, true, true, true, true, true, true, true, true, true, true, true, true, true, true, true, true, true, true, true, true, false, false, false, false, false, false, false, false] rfl rfl (any_of HT_.out (by kernel_rfl)) (fun _ _ _ h => h) (Or.inl ⟨by rfl, ?_⟩) ?_ ?_
     rotate_left
     ·intro w'
      go_simp
      with_reducible rfl
     rotate_left
     ·simp only [Act.put, List.setIfInBounds_toArray, List.set_cons_zero, List.set_cons_succ, i64_w, i32_w]
      rfl
     refine pure_ (i := 24) (N := some 127) (v := ?_) (a' := ?_) #[true, true, true, true, true, true, true, true, true, true, true, true, true, true, true, true, true, true, true, true, true, true, true, true, true, false, false, false, false, false, false, false] rfl rfl (any_of HT_.out (by kernel_rfl)) (fun _ _ _ h => h) (Or.inl ⟨by rfl, ?_⟩) ?_ ?_
     rotate_left
     ·intro w'
      go_simp
      with_reducible rfl
     rotate_left
     ·simp only [Act.put, List.setIfInBounds_toArray, List.set_cons_zero, List.set_cons_succ, i64_w, i32_w]
      rfl
     refine pure_ (i := 25) (N := some 128) (v := undef) (a' := ?_) #[true, true, true, true, true, true, true, true, true, true, true, true, true, true, true, true, true, true, true, true, true, true, true, true, true, true, false, false, false, false, false, false] rfl rfl (any_of HT_.out (by kernel_rfl)) (fun _ _ _ h => h) (Or.inr ⟨by rfl, rfl⟩) ?_ ?_
     rotate_left
     ·simp only [Act.put, List.setIfInBounds_toArray, List.set_cons_zero, List.set_cons_succ, i64_w, i32_w]
      rfl
     refine pure_ (i := 26) (N := some 129) (v := undef) (a' := ?_) #[true, true, true, true, true, true, true, true, true, true, true, true, true, true, true, true, true, true, true, true, true, true, true, true, true, true, true, false, false, false, false, false] rfl rfl (any_of HT_.out (by kernel_rfl)) (fun _ _ _ h => h) (Or.inr ⟨by rfl, rfl⟩) ?_ ?_
     rotate_left
     ·simp only [Act.put, List.setIfInBounds_toArray, List.set_cons_zero, List.set_cons_succ, i64_w, i32_w]
      rfl
     refine pure_ (i := 27) (N := some 130) (v := undef) (a' := ?_) #[true, true, true, true, true, true, true, true, true, true, true, true, true, true, true, true, true, true, true, true, true, true, true, true, true, true, true, true, false, false, false, false] rfl rfl (any_of HT_.out (by kernel_rfl)) (fun _ _ _ h => h) (Or.inr ⟨by rfl, rfl⟩) ?_ ?_
     rotate_left
     ·simp only [Act.put, List.setIfInBounds_toArray, List.set_cons_zero, List.set_cons_succ, i64_w, i32_w]
      rfl
     refine pure_ (i := 28) (N := some 131) (v := undef) (a' := ?_) #[true, true, true, true, true, true, true, true, true, true, true, true, true, true, true, true, true, true, true, true, true, true, true, true, true, true, true, true, true, false, false, false] rfl rfl (any_of HT_.out (by kernel_rfl)) (fun _ _ _ h => h) (Or.inr ⟨by rfl, rfl⟩) ?_ ?_
     rotate_left
     ·simp only [Act.put, List.setIfInBounds_toArray, List.set_cons_zero, List.set_cons_succ, i64_w, i32_w]
      rfl
     refine pure_ (i := 29) (N := some 132) (v := undef) (a' := ?_) #[true, true, true, true, true, true, true, true, true, true, true, true, true, true, true, true, true, true, true, true, true, true, true, true, true, true, true, true, true, true, false, false] rfl rfl (any_of HT_.out (by kernel_rfl)) (fun _ _ _ h => h) (Or.inr ⟨by rfl, rfl⟩) ?_ ?_
     rotate_left
     ·simp only [Act.put, List.setIfInBounds_toArray, List.set_cons_zero, List.set_cons_succ, i64_w, i32_w]
      rfl
     refine pure_ (i := 30) (N := some 133) (v := undef) (a' := ?_) #[true, true, true, true, true, true, true, true, true, true, true, true, true, true, true, true, true, true, true, true, true, true, true, true, true, true, true, true, true, true, true, false] rfl rfl (any_of HT_.out (by kernel_rfl)) (fun _ _ _ h => h) (Or.inr ⟨by rfl, rfl⟩) ?_ ?_
     rotate_left
     ·simp only [Act.put, List.setIfInBounds_toArray, List.set_cons_zero, List.set_cons_succ, i64_w, i32_w]
      rfl
     refine pure_ (i := 31) (N := some 134) (v := ?_) (a' := ?_) #[true, true, true, true, true, true, true, true, true, true, true, true, true, true, true, true, true, true, true, true, true, true, true, true, true, true, true, true, true, true, true, true] rfl rfl (any_of HT_.out (by kernel_rfl)) (fun _ _ _ h => h) (Or.inl ⟨by rfl, ?_⟩) ?_ ?_
     rotate_left
     ·intro w'
      go_simp
      with_reducible rfl
     rotate_left
     ·simp only [Act.put, List.setIfInBounds_toArray, List.set_cons_zero, List.set_cons_succ, i64_w, i32_w]
      rfl
     refine done_ (done_of HT_.out (by kernel_rfl)) ?_
     try go_wp2
     go_meet
     case rel => exact ⟨_, (true), (by first | rfl | (simp; done) | (simp [*]; done) | (simp [*]; omega)), H', ⟨by first | omega | exact Nat.le_refl _⟩, ⟨by (with_reducible repeat (first | apply Kd.R_alloc | apply Kd.R_drewN | apply Kd.R_drew)); exact HO258.out⟩, ⟨by (with_reducible repeat (first | apply Kd.R_alloc | apply Kd.R_drewN | apply Kd.R_drew)); exact Kd.R_mono HO244.out (fun _ hk => ⟨hk.1.2, hk.2⟩)⟩, ⟨by (with_reducible repeat (first | apply Kd.R_alloc | apply Kd.R_drewN | apply Kd.R_drew)); exact Kd.R_mono HO248.out (fun _ hk => ⟨hk.1.2, hk.2⟩)⟩, ⟨by (with_reducible repeat (first | apply Kd.R_alloc | apply Kd.R_drewN | apply Kd.R_drew)); exact Kd.R_mono HO254.out (fun _ hk => ⟨hk.1.2, hk.2⟩)⟩, ⟨by (with_reducible repeat (first | refine blk_drewN ?_ _ | refine blk_drew ?_ | refine blk_alloc ?_ _)); exact BK249.out⟩, ⟨by (with_reducible repeat (first | refine blk_drewN ?_ _ | refine blk_drew ?_ | refine blk_alloc ?_ _)); exact BK250.out⟩, ⟨by (with_reducible repeat (first | refine blk_drewN ?_ _ | refine blk_drew ?_ | refine blk_alloc ?_ _)); exact BK255.out⟩, ⟨by repeat (first | (with_reducible first | exact HB.out | apply below_alloc | apply pw_below_drewN | apply below_drew1 | refine below_set ?_ GE249.out | refine below_set ?_ GE250.out | refine below_set ?_ GE255.out) | exact HB.out)⟩⟩
   ·rw [if_neg c47] at H
    have c47b0 : ((t256.length : Int) == a16) = false := beq_eq_false_iff_ne.mpr c47
    have c47b1 : ((t256.length : Int) != a16) = true := bne_iff_ne.mpr c47
    have H' := Aside0.mk H
    clear H
    try go_wp2
    have n0_ := Aside0.mk (Kd.R_drew HO244.out)
    have n1_ := Aside0.mk (Kd.R_drew HO248.out)
    have n2_ := Aside0.mk (Kd.R_drew HO254.out)
    have n3_ := Aside0.mk (Kd.R_drew HO258.out)
    have n4_ := Aside0.mk (blk_drew BK249.out)
    have n5_ := Aside0.mk (blk_drew BK250.out)
    have n6_ := Aside0.mk (blk_drew BK255.out)
    have n7_ := Aside0.mk (below_drew1 HB.out)
    clear HO244
    clear HO248
    clear HO254
    clear HO258
    clear BK249
    clear BK250
    clear BK255
    clear HB
    have HO244 := n0_
    have HO248 := n1_
    have HO254 := n2_
    have HO258 := n3_
    have BK249 := n4_
    have BK250 := n5_
    have BK255 := n6_
    have HB := n7_
    clear n0_ n1_ n2_ n3_ n4_ n5_ n6_ n7_
    refine start_ (n := 32) (S := fun w' => w'.cell? ⟨gb249, 0, none⟩ = some (.int .i64 t241) ∧ w'.cell? ⟨gb249, 1, none⟩ = some (.slice Ao33 t242.length co33) ∧ w'.cell? ⟨gb250, 0, none⟩ = some (.int .i64 t245) ∧ w'.cell? ⟨gb250, 1, none⟩ = some (.slice Ao35 t246.length co35) ∧ w'.ownsMap Try.prog 3 (plainElem (H := Unit) Try.prog 3) mB nB D) (ds := []) #[false, false, false, false, false, false, false, false, false, false, false, false, false, false, false, false, false, false, false, false, false, false, false, false, false, false, false, false, false, false, false, false] (by kernel_rfl) rfl rfl ⟨(blk_cell BK249.out 0).trans rfl, (blk_cell BK249.out 1).trans rfl, (blk_cell BK250.out 0).trans rfl, (blk_cell BK250.out 1).trans rfl, HMB.out _ HB.out⟩ (fun hHeld => ?_); refine with_tabW SJ.tab24 SJ.bits24 (fun HT_ HW_ => ?_)
    generalize w42.drew = w71 at HO244 HO248 HO254 HO258 BK249 BK250 BK255 HB hHeld ⊢
    refine pure_ (i := 3) (N := some 106) (v := ?_) (a' := ?_) #[false, false, false, true, false, false, false, false, false, false, false, false, false, false, false, false, false, false, false, false, false, false, false, false, false, false, false, false, false, false, false, false] rfl rfl (any_of HT_.out (by kernel_rfl)) (fun _ _ _ h => h) (Or.inl ⟨by rfl, ?_⟩) ?_ ?_
    rotate_left
    ·intro w'
     go_simp
     with_reducible rfl
    rotate_left
    ·simp only [Act.put, List.setIfInBounds_toArray, List.set_cons_zero, List.set_cons_succ, i64_w, i32_w]
     rfl
    refine take_ (i := 0) (N := some 103) (v := ?_) (a' := ?_) #[true, false, false, true, false, false, false, false, false, false, false, false, false, false, false, false, false, false, false, false, false, false, false, false, false, false, false, false, false, false, false, false] rfl rfl (take_ofW HT_.out HW_.out (by kernel_rfl)) (fun _ _ _ h => h) (Or.inl ⟨by rfl, ?_⟩) hHeld ?_ ?_
    rotate_left
    ·rintro w' ⟨s0, s1, s2, s3, sM⟩
     go_simp
     with_reducible rfl
    rotate_left
    ·simp only [Act.put, List.setIfInBounds_toArray, List.set_cons_zero, List.set_cons_succ, i64_w, i32_w]
     rfl
    refine take_ (i := 1) (N := some 104) (v := ?_) (a' := ?_) #[true, true, false, true, false, false, false, false, false, false, false, false, false, false, false, false, false, false, false, false, false, false, false, false, false, false, false, false, false, false, false, false] rfl rfl (take_ofW HT_.out HW_.out (by kernel_rfl)) (fun _ _ _ h => h) (Or.inl ⟨by rfl, ?_⟩) hHeld ?_ ?_
    rotate_left
    ·rintro w' ⟨s0, s1, s2, s3, sM⟩
     go_simp
     with_reducible rfl
    rotate_left
    ·simp only [Act.put, List.setIfInBounds_toArray, List.set_cons_zero, List.set_cons_succ, i64_w, i32_w]
     rfl
    refine one_ (i := 2) (N := some 105) #[true, true, true, true, false, false, false, false, false, false, false, false, false, false, false, false, false, false, false, false, false, false, false, false, false, false, false, false, false, false, false, false] rfl rfl (one_of HT_.out (by kernel_rfl)) (by decide) (fun K hK => ?_)
    refine goes_ Try.func12 (by kernel_rfl) rfl #[.agg #[.int .i64 t241, .slice Ao33 t242.length co33], .agg #[.int .i64 t245, .slice Ao35 t246.length co35]] (by rfl) rfl rfl (by (try simp only [List.map_toArray, List.map_cons, List.map_nil]); first | done | rfl | (simp only [List.length_drop, List.length_take]; rfl)) ?_
    with_reducible refine (span_Has.calls k t241 _ _ t242 t245 _ _ t246 t259 _ ?side1 ?side2 ?side3 ?side4 A43.out).mono ?_
    (case side1 => repeat (first | exact (Kd.R_reads' HO244.out).2.2 | (with_reducible refine Kd.C_alloc ?_ _) | (with_reducible refine Kd.C_drewN ?_ _) | (with_reducible refine Kd.C_drew ?_)))
    (case side2 => exact (Kd.R_reads' HO244.out).2.1)
    (case side3 => repeat (first | exact (Kd.R_reads' HO248.out).2.2 | (with_reducible refine Kd.C_alloc ?_ _) | (with_reducible refine Kd.C_drewN ?_ _) | (with_reducible refine Kd.C_drew ?_)))
    (case side4 => exact (Kd.R_reads' HO248.out).2.1)
    rintro e w72 ⟨rfl, hb⟩
    refine ⟨_, rfl, ?_⟩
    have n0_ := Aside0.mk (Kd.R_below (by (with_reducible repeat (first | apply Kd.R_alloc | apply Kd.R_drewN | apply Kd.R_drew)); exact HO244.out) hb)
    have n1_ := Aside0.mk (Kd.R_below (by (with_reducible repeat (first | apply Kd.R_alloc | apply Kd.R_drewN | apply Kd.R_drew)); exact HO248.out) hb)
    have n2_ := Aside0.mk (Kd.R_below (by (with_reducible repeat (first | apply Kd.R_alloc | apply Kd.R_drewN | apply Kd.R_drew)); exact HO254.out) hb)
    have n3_ := Aside0.mk (Kd.R_below (by (with_reducible repeat (first | apply Kd.R_alloc | apply Kd.R_drewN | apply Kd.R_drew)); exact HO258.out) hb)
    have n4_ := Aside0.mk (blk_below (g := gb249) (o := .cells #[.int .i64 t241, .slice Ao33 t242.length co33] 31 (0, 0)) (by (with_reducible repeat (first | refine blk_drewN ?_ _ | refine blk_drew ?_ | refine blk_alloc ?_ _)); exact BK249.out) hb)
    have n5_ := Aside0.mk (blk_below (g := gb250) (o := .cells #[.int .i64 t245, .slice Ao35 t246.length co35] 31 (0, 0)) (by (with_reducible repeat (first | refine blk_drewN ?_ _ | refine blk_drew ?_ | refine blk_alloc ?_ _)); exact BK250.out) hb)
    have n6_ := Aside0.mk (blk_below (g := gb255) (o := .cells #[.int .i64 t251, .slice Ao41 t252.length co41] 31 (0, 0)) (by (with_reducible repeat (first | refine blk_drewN ?_ _ | refine blk_drew ?_ | refine blk_alloc ?_ _)); exact BK255.out) hb)
    have n7_ := Aside0.mk (below_step (by repeat (first | (with_reducible first | exact HB.out | apply below_alloc | apply pw_below_drewN | apply below_drew1 | refine below_set ?_ GE249.out | refine below_set ?_ GE250.out | refine below_set ?_ GE255.out) | exact HB.out)) hb)
    clear HO244
    clear HO248
    clear HO254
    clear HO258
    clear BK249
    clear BK250
    clear BK255
    clear HB
    have HO244 := n0_
    have HO248 := n1_
    have HO254 := n2_
    have HO258 := n3_
    have BK249 := n4_
    have BK250 := n5_
    have BK255 := n6_
    have HB := n7_
    clear n0_ n1_ n2_ n3_ n4_ n5_ n6_ n7_
    (try clear hb)
    (try clear hb2)
    (try clear hk)
    (try clear hi)
    obtain ⟨Ao73, co73, eo73⟩ := Kd.R_slice HO258.out
    (first | subst eo73 | (injection eo73 with f1_ f2_ f3_; have f4_ := f1_.symm; have f5_ := f3_.symm; clear f1_ f2_ f3_; subst f4_; subst f5_))
    refine hK.out _ _ ⟨(blk_cell BK249.out 0).trans rfl, (blk_cell BK249.out 1).trans rfl, (blk_cell BK250.out 0).trans rfl, (blk_cell BK250.out 1).trans rfl, HMB.out _ HB.out⟩ (fun hHeld => ?_)
    clear hK K
    refine norm_ (a' := ?_) ?_ ?_
    rotate_left
    ·show Act.put _ (some 105) _ = _
     simp only [Act.put, List.setIfInBounds_toArray, List.set_cons_zero, List.set_cons_succ, i64_w, i32_w]
     rfl
    refine pure_ (i := 4) (N := some 107) (v := ?_) (a' := ?_) #[true, true, true, true, true, false, false, false, false, false, false, false, false, false, false, false, false, false, false, false, false, false, false, false, false, false, false, false, false, false, false, false] rfl rfl (any_of HT_.out (by kernel_rfl)) (fun _ _ _ h => h) (Or.inl ⟨by rfl, ?_⟩) ?_ ?_
    rotate_left
    ·intro w'
     go_simp
     with_reducible rfl
    rotate_left
    ·simp only [Act.put, List.setIfInBounds_toArray, List.set_cons_zero, List.set_cons_succ, i64_w, i32_w]
     rfl
    refine pure_ (i := 5) (N := some 108) (v := ?_) (a' := ?_) #[true, true, true, true, true, true, false, false, false, false, false, false, false, false, false, false, false, false, false, false, false, false, false, false, false, false, false, false, false, false, false, false] rfl rfl (any_of HT_.out (by kernel_rfl)) (fun _ _ _ h => h) (Or.inl ⟨by rfl, ?_⟩) ?_ ?_
    rotate_left
    ·intro w'
     go_simp
     with_reducible rfl
    rotate_left
    ·simp only [Act.put, List.setIfInBounds_toArray, List.set_cons_zero, List.set_cons_succ, i64_w, i32_w]
     rfl
    refine pure_ (i := 6) (N := some 109) (v := ?_) (a' := ?_) #[true, true, true, true, true, true, true, false, false, false, false, false, false, false, false, false, false, false, false, false, false, false, false, false, false, false, false, false, false, false, false, false] rfl rfl (any_of HT_.out (by kernel_rfl)) (fun _ _ _ h => h) (Or.inl ⟨by rfl, ?_⟩) ?_ ?_
    rotate_left
    ·intro w'
     go_simp
     with_reducible rfl
    rotate_left
    ·simp only [Act.put, List.setIfInBounds_toArray, List.set_cons_zero, List.set_cons_succ, i64_w, i32_w]
     rfl
    refine pure_ (i := 7) (N := some 110) (v := ?_) (a' := ?_) #[true, true, true, true, true, true, true, true, false, false, false, false, false, false, false, false, false, false, false, false, false, false, false, false, false, false, false, false, false, false, false, false] rfl rfl (any_of HT_.out (by kernel_rfl)) (fun _ _ _ h => h) (Or.inl ⟨by rfl, ?_⟩) ?_ ?_
    rotate_left
    ·intro w'
     go_simp
     with_reducible rfl
    rotate_left
    ·simp only [Act.put, List.setIfInBounds_toArray, List.set_cons_zero, List.set_cons_succ, i64_w, i32_w]
     rfl
    refine pure_ (i := 8) (N := some 111) (v := ?_) (a' := ?_) #[true, true, true, true, true, true, true, true, true, false, false, false, false, false, false, false, false, false, false, false, false, false, false, false, false, false, false, false, false, false, false, false] rfl rfl (any_of HT_.out (by kernel_rfl)) (fun _ _ _ h => h) (Or.inl ⟨by rfl, ?_⟩) ?_ ?_
    rotate_left
    ·intro w'
     go_simp
     with_reducible rfl
    rotate_left
    ·simp only [Act.put, List.setIfInBounds_toArray, List.set_cons_zero, List.set_cons_succ, i64_w, i32_w]
     rfl
    refine take_ (i := 9) (N := some 112) (v := .int .i64 a16) (a' := ?_) #[true, true, true, true, true, true, true, true, true, true, false, false, false, false, false, false, false, false, false, false, false, false, false, false, false, false, false, false, false, false, false, false] rfl rfl (take_ofW HT_.out HW_.out (by kernel_rfl)) (fun _ _ _ h => h) (Or.inl ⟨by rfl, ?_⟩) hHeld ?_ ?_
    ·rintro w' ⟨s0, s1, s2, s3, sM⟩
     exact len_step sM HSZ.out _ rfl rfl
    rotate_left
    ·simp only [Act.put, List.setIfInBounds_toArray, List.set_cons_zero, List.set_cons_succ, i64_w, i32_w]
     rfl
    refine pure_ (i := 10) (N := some 113) (v := ?_) (a' := ?_) #[true, true, true, true, true, true, true, true, true, true, true, false, false, false, false, false, false, false, false, false, false, false, false, false, false, false, false, false, false, false, false, false] rfl rfl (any_of HT_.out (by kernel_rfl)) (fun _ _ _ h => h) (Or.inl ⟨by rfl, ?_⟩) ?_ ?_
    rotate_left
    ·intro w'
     go_simp
     with_reducible rfl
    rotate_left
    ·simp only [Act.put, List.setIfInBounds_toArray, List.set_cons_zero, List.set_cons_succ, i64_w, i32_w]
     rfl
    refine pure_ (i := 11) (N := some 114) (v := ?_) (a' := ?_) #[true, true, true, true, true, true, true, true, true, true, true, true, false, false, false, false, false, false, false, false, false, false, false, false, false, false, false, false, false, false, false, false] rfl rfl (any_of HT_.out (by kernel_rfl)) (fun _ _ _ h => h) (Or.inl ⟨by rfl, ?_⟩) ?_ ?_
    rotate_left
    ·intro w'
     go_simp
     with_reducible rfl
    rotate_left
    ·simp only [Act.put, List.setIfInBounds_toArray, List.set_cons_zero, List.set_cons_succ, i64_w, i32_w]
     rfl
    refine pure_ (i := 12) (N := some 115) (v := ?_) (a' := ?_) #[true, true, true, true, true, true, true, true, true, true, true, true, true, false, false, false, false, false, false, false, false, false, false, false, false, false, false, false, false, false, false, false] rfl rfl (any_of HT_.out (by kernel_rfl)) (fun _ _ _ h => h) (Or.inl ⟨by rfl, ?_⟩) ?_ ?_
    rotate_left
    ·intro w'
     go_simp
     with_reducible rfl
    rotate_left
    ·simp only [Act.put, List.setIfInBounds_toArray, List.set_cons_zero, List.set_cons_succ, i64_w, i32_w]
     rfl
    refine pure_ (i := 13) (N := some 116) (v := undef) (a' := ?_) #[true, true, true, true, true, true, true, true, true, true, true, true, true, true, false, false, false, false, false, false, false, false, false, false, false, false, false, false, false, false, false, false] rfl rfl (any_of HT_.out (by kernel_rfl)) (fun _ _ _ h => h) (Or.inr ⟨by rfl, rfl⟩) ?_ ?_
    rotate_left
    ·simp only [Act.put, List.setIfInBounds_toArray, List.set_cons_zero, List.set_cons_succ, i64_w, i32_w]
     rfl
    refine pure_ (i := 14) (N := some 117) (v := undef) (a' := ?_) #[true, true, true, true, true, true, true, true, true, true, true, true, true, true, true, false, false, false, false, false, false, false, false, false, false, false, false, false, false, false, false, false] rfl rfl (any_of HT_.out (by kernel_rfl)) (fun _ _ _ h => h) (Or.inr ⟨by rfl, rfl⟩) ?_ ?_
    rotate_left
    ·simp only [Act.put, List.setIfInBounds_toArray, List.set_cons_zero, List.set_cons_succ, i64_w, i32_w]
     rfl
    refine pure_ (i := 15) (N := some 118) (v := undef) (a' := ?_) #[true, true, true, true, true, true, true, true, true, true, true, true, true, true, true, true, false, false, false, false, false, false, false, false, false, false, false, false, false, false, false, false] rfl rfl (any_of HT_.out (by kernel_rfl)) (fun _ _ _ h => h) (Or.inr ⟨by rfl, rfl⟩) ?_ ?_
    rotate_left
    ·simp only [Act.put, List.setIfInBounds_toArray, List.set_cons_zero, List.set_cons_succ, i64_w, i32_w]
     rfl
    refine pure_ (i := 16) (N := some 119) (v := undef) (a' := ?_) #[true, true, true, true, true, true, true, true, true, true, true, true, true, true, true, true, true, false, false, false, false, false, false, false, false, false, false, false, false, false, false, false] rfl rfl (any_of HT_.out (by kernel_rfl)) (fun _ _ _ h => h) (Or.inr ⟨by rfl, rfl⟩) ?_ ?_
    rotate_left
    ·simp only [Act.put, List.setIfInBounds_toArray, List.set_cons_zero, List.set_cons_succ, i64_w, i32_w]
     rfl
    refine pure_ (i := 17) (N := some 120) (v := ?_) (a' := ?_) #[true, true, true, true, true, true, true, true, true, true, true, true, true, true, true, true, true, true, false, false, false, false, false, false, false, false, false, false, false, false, false, false] rfl rfl (any_of HT_.out (by kernel_rfl)) (fun _ _ _ h => h) (Or.inl ⟨by rfl, ?_⟩) ?_ ?_
    rotate_left
    ·intro w'
     go_simp
     with_reducible rfl
    rotate_left
    ·simp only [Act.put, List.setIfInBounds_toArray, List.set_cons_zero, List.set_cons_succ, i64_w, i32_w]
     rfl
    refine pure_ (i := 18) (N := some 121) (v := ?_) (a' := ?_) #[true, true, true, true, true, true, true, true, true, true, true, true, true, true, true, true, true, true, true, false, false, false, false, false, false, false, false, false, false, false, false, false] rfl rfl (any_of HT_.out (by kernel_rfl)) (fun _ _ _ h => h) (Or.inl ⟨by rfl, ?_⟩) ?_ ?_
    rotate_left
    ·intro w'
     go_simp
     with_reducible rfl
    rotate_left
    ·simp only [Act.put, List.setIfInBounds_toArray, List.set_cons_zero, List.set_cons_succ, i64_w, i32_w]
     rfl
    refine pure_ (i := 19) (N := some 122) (v := undef) (a' := ?_) #[true, true, true, true, true, true, true, true, true, true, true, true, true, true, true, true, true, true, true, true, false, false, false, false, false, false, false, false, false, false, false, false] rfl rfl (any_of HT_.out (by kernel_rfl)) (fun _ _ _ h => h) (Or.inr ⟨by rfl, rfl⟩) ?_ ?_
    rotate_left
    ·simp only [Act.put, List.setIfInBounds_toArray, List.set_cons_zero, List.set_cons_succ, i64_w, i32_w]
     rfl
    refine pure_ (i := 20) (N := some 123) (v := undef) (a' := ?_) #[true, true, true, true, true, true, true, true, true, true, true, true, true, true, true, true, true, true, true, true, true, false, false, false, false, false, false, false, false, false, false, false] rfl rfl (any_of HT_.out (by kernel_rfl)) (fun _ _ _ h => h) (Or.inr ⟨by rfl, rfl⟩) ?_ ?_
    rotate_left
    ·simp only [Act.put, List.setIfInBounds_toArray, List.set_cons_zero, List.set_cons_succ, i64_w, i32_w]
     rfl
    refine pure_ (i := 21) (N := some 124) (v := undef) (a' := ?_) #[true, true, true, true, true, true, true, true, true, true, true, true, true, true, true, true, true, true, true, true, true, true, false, false, false, false, false, false, false, false, false, false] rfl rfl (any_of HT_.out (by kernel_rfl)) (fun _ _ _ h => h) (Or.inr ⟨by rfl, rfl⟩) ?_ ?_
    rotate_left
    ·simp only [Act.put, List.setIfInBounds_toArray, List.set_cons_zero, List.set_cons_succ, i64_w, i32_w]
     rfl
    refine pure_ (i := 22) (N := some 125) (v := undef) (a' := ?_) #[true, true, true, true, true, true, true, true, true, true, true, true, true, true, true, true, true, true, true, true, true, true, true, false, false, false, false, false, false, false, false, false] rfl rfl (any_of HT_.out (by kernel_rfl)) (fun _ _ _ h => h) (Or.inr ⟨by rfl, rfl⟩) ?_ ?_
    rotate_left
    ·simp only [Act.put, List.setIfInBounds_toArray, List.set_cons_zero, List.set_cons_succ, i64_w, i32_w]
     rfl
    refine pure_ (i := 23) (N := some 126) (v := ?_) (a' := ?_) #[true, true, true, true, true, true, true, true, true, true, true, true, true, true, true, true, true, true, true, true, true, true, true, true, false, false, false, false, false, false, false, false] rfl rfl (any_of HT_.out (by kernel_rfl)) (fun _ _ _ h => h) (Or.inl ⟨by rfl, ?_⟩) ?_ ?_
    rotate_left
    ·intro w'
     go_simp
     with_reducible rfl
    rotate_left
    ·simp only [Act.put, List.setIfInBounds_toArray, List.set_cons_zero, List.set_cons_succ, i64_w, i32_w]
     rfl
    refine pure_ (i := 24) (N := some 127) (v := ?_) (a' := ?_) #[true, true, true, true, true, true, true, true, true, true, true, true, true, true, true, true, true, true, true, true, true, true, true, true, true, false, false, false, false, false, false, false] rfl rfl (any_of HT_.out (by kernel_rfl)) (fun _ _ _ h => h) (Or.inl ⟨by rfl, ?_⟩) ?_ ?_
    rotate_left
    ·intro w'
     go_simp
     with_reducible rfl
    rotate_left
    ·simp only [Act.put, List.setIfInBounds_toArray, List.set_cons_zero, List.set_cons_succ, i64_w, i32_w]
     rfl
    refine pure_ (i := 25) (N := some 128) (v := undef) (a' := ?_) #[true, true, true, true, true, true, true, true, true, true, true, true, true, true, true, true, true, true, true, true, true, true, true, true, true, true, false, false, false, false, false, false] rfl rfl (any_of HT_.out (by kernel_rfl)) (fun _ _ _ h => h) (Or.inr ⟨by rfl, rfl⟩) ?_ ?_
    rotate_left
    ·simp only [Act.put, List.setIfInBounds_toArray, List.set_cons_zero, List.set_cons_succ, i64_w, i32_w]
     rfl
    refine pure_ (i := 26) (N := some 129) (v := undef) (a' := ?_) #[true, true, true, true, true, true, true, true, true, true, true, true, true, true, true, true, true, true, true, true, true, true, true, true, true, true, true, false, false, false, false, false] rfl rfl (any_of HT_.out (by kernel_rfl)) (fun _ _ _ h => h) (Or.inr ⟨by rfl, rfl⟩) ?_ ?_
    rotate_left
    ·simp only [Act.put, List.setIfInBounds_toArray, List.set_cons_zero, List.set_cons_succ, i64_w, i32_w]
     rfl
    refine pure_ (i := 27) (N := some 130) (v := undef) (a' := ?_) #[true, true, true, true, true, true, true, true, true, true, true, true, true, true, true, true, true, true, true, true, true, true, true, true, true, true, true, true, false, false, false, false] rfl rfl (any_of HT_.out (by kernel_rfl)) (fun _ _ _ h => h) (Or.inr ⟨by rfl, rfl⟩) ?_ ?_
    rotate_left
    ·simp only [Act.put, List.setIfInBounds_toArray, List.set_cons_zero, List.set_cons_succ, i64_w, i32_w]
     rfl
    refine pure_ (i := 28) (N := some 131) (v := undef) (a' := ?_) #[true, true, true, true, true, true, true, true, true, true, true, true, true, true, true, true, true, true, true, true, true, true, true, true, true, true, true, true, true, false, false, false] rfl rfl (any_of HT_.out (by kernel_rfl)) (fun _ _ _ h => h) (Or.inr ⟨by rfl, rfl⟩) ?_ ?_
    rotate_left
    ·simp only [Act.put, List.setIfInBounds_toArray, List.set_cons_zero, List.set_cons_succ, i64_w, i32_w]
     rfl
    refine pure_ (i := 29) (N := some 132) (v := undef) (a' := ?_) #[true, true, true, true, true, true, true, true, true, true, true, true, true, true, true, true, true, true, true, true, true, true, true, true, true, true, true, true, true, true, false, false] rfl rfl (any_of HT_.out (by kernel_rfl)) (fun _ _ _ h => h) (Or.inr ⟨by rfl, rfl⟩) ?_ ?_
    rotate_left
    ·simp only [Act.put, List.setIfInBounds_toArray, List.set_cons_zero, List.set_cons_succ, i64_w, i32_w]
     rfl
    refine pure_ (i := 30) (N := some 133) (v := undef) (a' := ?_) #[true, true, true, true, true, true, true, true, true, true, true, true, true, true, true, true, true, true, true, true, true, true, true, true, true, true, true, true, true, true, true, false] rfl rfl (any_of HT_.out (by kernel_rfl)) (fun _ _ _ h => h) (Or.inr ⟨by rfl, rfl⟩) ?_ ?_
    rotate_left
    ·simp only [Act.put, List.setIfInBounds_toArray, List.set_cons_zero, List.set_cons_succ, i64_w, i32_w]
     rfl
    refine pure_ (i := 31) (N := some 134) (v := ?_) (a' := ?_) #[true, true, true, true, true, true, true, true, true, true, true, true, true, true, true, true, true, true, true, true, true, true, true, true, true, true, true, true, true, true, true, true] rfl rfl (any_of HT_.out (by kernel_rfl)) (fun _ _ _ h => h) (Or.inl ⟨by rfl, ?_⟩) ?_ ?_
    rotate_left
    ·intro w'
     go_simp
     with_reducible rfl
    rotate_left
    ·simp only [Act.put, List.setIfInBounds_toArray, List.set_cons_zero, List.set_cons_succ, i64_w, i32_w]
     rfl
    refine done_ (done_of HT_.out (by kernel_rfl)) ?_
    try go_wp2
    go_meet
    case rel => exact ⟨_, (true), (by first | rfl | (simp; done) | (simp [*]; done) | (simp [*]; omega)), H', ⟨by first | omega | exact Nat.le_refl _⟩, ⟨by (with_reducible repeat (first | apply Kd.R_alloc | apply Kd.R_drewN | apply Kd.R_drew)); exact HO258.out⟩, ⟨by (with_reducible repeat (first | apply Kd.R_alloc | apply Kd.R_drewN | apply Kd.R_drew)); exact Kd.R_mono HO244.out (fun _ hk => ⟨hk.1.2, hk.2⟩)⟩, ⟨by (with_reducible repeat (first | apply Kd.R_alloc | apply Kd.R_drewN | apply Kd.R_drew)); exact Kd.R_mono HO248.out (fun _ hk => ⟨hk.1.2, hk.2⟩)⟩, ⟨by (with_reducible repeat (first | apply Kd.R_alloc | apply Kd.R_drewN | apply Kd.R_drew)); exact Kd.R_mono HO254.out (fun _ hk => ⟨hk.1.2, hk.2⟩)⟩, ⟨by (with_reducible repeat (first | refine blk_drewN ?_ _ | refine blk_drew ?_ | refine blk_alloc ?_ _)); exact BK249.out⟩, ⟨by (with_reducible repeat (first | refine blk_drewN ?_ _ | refine blk_drew ?_ | refine blk_alloc ?_ _)); exact BK250.out⟩, ⟨by (with_reducible repeat (first | refine blk_drewN ?_ _ | refine blk_drew ?_ | refine blk_alloc ?_ _)); exact BK255.out⟩, ⟨by repeat (first | (with_reducible first | exact HB.out | apply below_alloc | apply pw_below_drewN | apply below_drew1 | refine below_set ?_ GE249.out | refine below_set ?_ GE250.out | refine below_set ?_ GE255.out) | exact HB.out)⟩⟩
 case rest =>
  clear HC26
  try clear c1
  try clear p2
  try clear c4
  try clear c12
  try clear c47
  try clear c47b0
  try clear c47b1
  obtain ⟨kq, x134_25, rfl, HA, HJ25, HO_26, HO_250001, HO_251001, HO_256001, BK249, BK250, BK255, HB⟩ := hcut
  cases kq with
  | zero => exact absurd HA.out (by simp [SJ.j0])
  | succ kj25 =>
   have H := HA.out
   clear HA
   simp only [SJ.j0] at H
   by_cases c74 : x134_25 = true
   ·subst c74
    have H1 : (some false) = some r := by rw [if_pos rfl] at H; exact H
    clear H
    have H := H1
    clear H1
    exact absurd ((Option.some.inj H).trans hr_.out) (by decide)
   ·replace c74 := Bool.eq_false_iff.mpr c74
    subst c74
    have H1 : (SJ.l0 kj25 l11 l12 l14 t256 t256 (t256.length : Int) 0 t251 t252) = some r := by rw [if_neg (show ¬ (false = true) by decide)] at H; exact H
    clear H
    have H := H1
    clear H1
    have H' := Aside0.mk H
    clear H
    obtain ⟨Ao75, co75, eo75⟩ := Kd.R_slice HO_26.out
    subst eo75
    go_wp2
    go_loopg [137] kj25 (fun kq v137 w' => ∃ (x137_2 : Int), v137 = .int .i64 x137_2 ∧ Aside0 (SJ.l0 kq l11 l12 l14 t256 t256 (t256.length : Int) x137_2 t251 t252 = some r) ∧ Aside0 (kq ≤ kj25) ∧ Aside0 (Kd.R (Kd.int .i64) 3 w' w.heap.size (fun _ => True) (.slice Ao75 t256.length co75) t256) ∧ Aside0 (Kd.R (Kd.int .i64) 3 w' w.heap.size (fun _ => True) (.slice Ao75 t256.length co75) t256) ∧ Aside0 (Kd.R k38 38 w' w.heap.size (fun k_ => some k_ ≠ ((.slice Ao35 t246.length co35) : Value).ownBlock ∧ some k_ ≠ ((.slice Ao41 t252.length co41) : Value).ownBlock) (.slice Ao33 t242.length co33) t242) ∧ Aside0 (Kd.R k38 38 w' w.heap.size (fun k_ => some k_ ≠ ((.slice Ao33 t242.length co33) : Value).ownBlock ∧ some k_ ≠ ((.slice Ao41 t252.length co41) : Value).ownBlock) (.slice Ao35 t246.length co35) t246) ∧ Aside0 (Kd.R k38 38 w' w.heap.size (fun k_ => some k_ ≠ ((.slice Ao33 t242.length co33) : Value).ownBlock ∧ some k_ ≠ ((.slice Ao35 t246.length co35) : Value).ownBlock) (.slice Ao41 t252.length co41) t252) ∧ Aside0 (w'.heap[gb249]? = some (.cells #[.int .i64 t241, (.slice Ao33 t242.length co33)] 31 (0, 0))) ∧ Aside0 (w'.heap[gb250]? = some (.cells #[.int .i64 t245, (.slice Ao35 t246.length co35)] 31 (0, 0))) ∧ Aside0 (w'.heap[gb255]? = some (.cells #[.int .i64 t251, (.slice Ao41 t252.length co41)] 31 (0, 0))) ∧ Aside0 (Below w.heap.size w w'))
    case atStart => exact ⟨(0), (by first | rfl | (simp; done) | (simp [*]; done) | (simp [*]; omega)), H', ⟨Nat.le_refl _⟩, ⟨by (with_reducible repeat (first | apply Kd.R_alloc | apply Kd.R_drewN | apply Kd.R_drew)); exact HO_26.out⟩, ⟨by (with_reducible repeat (first | apply Kd.R_alloc | apply Kd.R_drewN | apply Kd.R_drew)); exact HO_26.out⟩, ⟨by (with_reducible repeat (first | apply Kd.R_alloc | apply Kd.R_drewN | apply Kd.R_drew)); exact HO_250001.out⟩, ⟨by (with_reducible repeat (first | apply Kd.R_alloc | apply Kd.R_drewN | apply Kd.R_drew)); exact HO_251001.out⟩, ⟨by (with_reducible repeat (first | apply Kd.R_alloc | apply Kd.R_drewN | apply Kd.R_drew)); exact HO_256001.out⟩, ⟨by (with_reducible repeat (first | refine blk_drewN ?_ _ | refine blk_drew ?_ | refine blk_alloc ?_ _)); exact BK249.out⟩, ⟨by (with_reducible repeat (first | refine blk_drewN ?_ _ | refine blk_drew ?_ | refine blk_alloc ?_ _)); exact BK250.out⟩, ⟨by (with_reducible repeat (first | refine blk_drewN ?_ _ | refine blk_drew ?_ | refine blk_alloc ?_ _)); exact BK255.out⟩, ⟨by repeat (first | (with_reducible first | exact HB.out | apply below_alloc | apply pw_below_drewN | apply below_drew1 | refine below_set ?_ GE249.out | refine below_set ?_ GE250.out | refine below_set ?_ GE255.out) | exact HB.out)⟩⟩
    case round =>
     clear H'
     try clear c1
     try clear p2
     try clear c4
     try clear c7
     try clear c12
     try clear c47
     try clear c47b0
     try clear c47b1
     try clear c74
     try clear p2
     obtain ⟨x137_2, rfl, HA, HK2, HO_26, HO_135, HO_250001, HO_251001, HO_256001, BK249, BK250, BK255, HB⟩ := hrel
     cases gk with
     | zero => exact absurd HA.out (by simp [SJ.l0])
     | succ k2 =>
      have H := HA.out
      clear HA
      simp only [SJ.l0] at H
      by_cases c76 : x137_2 < (t256.length : Int)
      ·rw [if_pos c76] at H
       have c76b0 : decide (x137_2 < (t256.length : Int)) = true := decide_eq_true c76
       clear c76
       by_cases c77 : 0 ≤ x137_2
       ·rw [if_pos c77] at H
        have c77b0 : decide (0 ≤ x137_2) = true := decide_eq_true c77
        clear c77
        by_cases c78 : x137_2 < (t256.length : Int)
        ·rw [if_pos c78] at H
         have c78b0 : decide (x137_2 < (t256.length : Int)) = true := decide_eq_true c78
         clear c78
         replace H := Option.bind_eq_some_iff.mp H
         obtain ⟨t268, A790, H⟩ := H
         replace H : (if t268 = 0 then (some false) else (if x137_2 > 0 then (if 0 ≤ (wrap64 (x137_2 - 1)) then (if (wrap64 (x137_2 - 1)) < (t256.length : Int) then (if (rd t256 (wrap64 (x137_2 - 1))) ≥ (rd t256 x137_2) then (some false) else (SJ.l0 k2 l11 l12 l14 t256 t256 (t256.length : Int) (wrap64 (x137_2 + 1)) t251 t252)) else (none)) else (none)) else (SJ.l0 k2 l11 l12 l14 t256 t256 (t256.length : Int) (wrap64 (x137_2 + 1)) t251 t252))) = some r := H
         have A79 := Aside0.mk A790
         clear A790
         by_cases c80 : t268 = 0
         ·rw [if_pos c80] at H
          have c80b0 : (t268 == 0) = true := beq_iff_eq.mpr c80
          have c80b1 : (t268 != 0) = false := bne_eq_false_iff_eq.mpr c80
          clear c80
          exact absurd ((Option.some.inj H).trans hr_.out) (by decide)
         ·rw [if_neg c80] at H
          have c80b0 : (t268 == 0) = false := beq_eq_false_iff_ne.mpr c80
          have c80b1 : (t268 != 0) = true := bne_iff_ne.mpr c80
          by_cases c81 : x137_2 > 0
          ·rw [if_pos c81] at H
           have c81b0 : decide (0 < x137_2) = true := decide_eq_true c81
           clear c81
           obtain ⟨ji82, hji82⟩ : ∃ j_ : Int, (wrap64 (x137_2 - 1)) = j_ := ⟨_, rfl⟩
           replace H : (if 0 ≤ (ji82) then (if (ji82) < (t256.length : Int) then (if (rd t256 (ji82)) ≥ (rd t256 x137_2) then (some false) else (SJ.l0 k2 l11 l12 l14 t256 t256 (t256.length : Int) (wrap64 (x137_2 + 1)) t251 t252)) else (none)) else (none)) = some r := by first | (rw [hji82] at H; exact H) | (simp only [hji82] at H ⊢; exact H)
           (try rw [hji82] at A79)
           have hji82w : (IntKind.i64.wrap (x137_2 - 1)) = ji82 := (i64_w _).trans hji82
           by_cases c83 : 0 ≤ (ji82)
           ·rw [if_pos c83] at H
            have c83b0 : decide (0 ≤ (ji82)) = true := decide_eq_true c83
            clear c83
            by_cases c84 : (ji82) < (t256.length : Int)
            ·rw [if_pos c84] at H
             have c84b0 : decide ((ji82) < (t256.length : Int)) = true := decide_eq_true c84
             clear c84
             by_cases c85 : (rd t256 (ji82)) ≥ (rd t256 x137_2)
             ·rw [if_pos c85] at H
              have c85b0 : decide ((rd t256 x137_2) ≤ (rd t256 (ji82))) = true := decide_eq_true c85
              clear c85
              exact absurd ((Option.some.inj H).trans hr_.out) (by decide)
             ·rw [if_neg c85] at H
              have c85b0 : decide ((rd t256 x137_2) ≤ (rd t256 (ji82))) = false := decide_eq_false c85
              clear c85
              have H' := Aside0.mk H
              clear H
              have p267 : 0 ≤ (x137_2 : Int) := of_decide_eq_true (by first | (with_reducible assumption) | assumption)
              have q267 : x137_2 < (t256.length : Int) := of_decide_eq_true (by first | (with_reducible assumption) | assumption)
              obtain ⟨ad267, e267, hx267_0⟩ := Kd.at_int (Kd.R_reads' HO_135.out).2.2 x137_2 p267 q267
              cases e267
              have HKY := Aside0.mk (keyOf_int_mk Try.underlying3 (wf_small (HWK.out _ (rd_mem p267 q267))))
              replace p267 := eq_true p267
              replace q267 := eq_true q267
              go_wp2_with (first | (at_lookup; refine wpList_lookup_own_int _ rfl _ _ 41 rfl 3 3 .i64 law3 Try.underlying41 Try.underlying3 (zero3 _) mB _ _ rfl (HMB.out _ HB.out) _ _ rfl HKY.out ?_; intro c_ hat_ hwc_; obtain rfl : c_ = t268 := (look_is HH.out hat_).trans (Option.some.inj A79.out); have p269 : 0 ≤ ((ji82) : Int) := of_decide_eq_true (by first | (with_reducible assumption) | assumption); have q269 : (ji82) < (t256.length : Int) := of_decide_eq_true (by first | (with_reducible assumption) | assumption); obtain ⟨ad269, e269, hx269_0⟩ := Kd.at_int (Kd.R_reads' HO_26.out).2.2 (ji82) p269 q269; obtain rfl : ad267 = ad269 := (by injection e269); replace p269 := eq_true p269; replace q269 := eq_true q269))
              go_roundg k2
              case measure => have := HJ25.out; have := HK2.out; omega
              case rel => exact ⟨(wrap64 (x137_2 + 1)), (by first | rfl | (simp; done) | (simp [*]; done) | (simp [*]; omega)), H', ⟨by have := HJ25.out; have := HK2.out; omega⟩, ⟨by (with_reducible repeat (first | apply Kd.R_alloc | apply Kd.R_drewN | apply Kd.R_drew)); exact HO_26.out⟩, ⟨by (with_reducible repeat (first | apply Kd.R_alloc | apply Kd.R_drewN | apply Kd.R_drew)); exact HO_135.out⟩, ⟨by (with_reducible repeat (first | apply Kd.R_alloc | apply Kd.R_drewN | apply Kd.R_drew)); exact HO_250001.out⟩, ⟨by (with_reducible repeat (first | apply Kd.R_alloc | apply Kd.R_drewN | apply Kd.R_drew)); exact HO_251001.out⟩, ⟨by (with_reducible repeat (first | apply Kd.R_alloc | apply Kd.R_drewN | apply Kd.R_drew)); exact HO_256001.out⟩, ⟨by (with_reducible repeat (first | refine blk_drewN ?_ _ | refine blk_drew ?_ | refine blk_alloc ?_ _)); exact BK249.out⟩, ⟨by (with_reducible repeat (first | refine blk_drewN ?_ _ | refine blk_drew ?_ | refine blk_alloc ?_ _)); exact BK250.out⟩, ⟨by (with_reducible repeat (first | refine blk_drewN ?_ _ | refine blk_drew ?_ | refine blk_alloc ?_ _)); exact BK255.out⟩, ⟨by repeat (first | (with_reducible first | exact HB.out | apply below_alloc | apply pw_below_drewN | apply below_drew1 | refine below_set ?_ GE249.out | refine below_set ?_ GE250.out | refine below_set ?_ GE255.out) | exact HB.out)⟩⟩
            ·rw [if_neg c84] at H
             exact absurd H (by simp)
           ·rw [if_neg c83] at H
            exact absurd H (by simp)
          ·rw [if_neg c81] at H
           have c81b0 : decide (0 < x137_2) = false := decide_eq_false c81
           clear c81
           have H' := Aside0.mk H
           clear H
           have p267 : 0 ≤ (x137_2 : Int) := of_decide_eq_true (by first | (with_reducible assumption) | assumption)
           have q267 : x137_2 < (t256.length : Int) := of_decide_eq_true (by first | (with_reducible assumption) | assumption)
           obtain ⟨ad267, e267, hx267_0⟩ := Kd.at_int (Kd.R_reads' HO_135.out).2.2 x137_2 p267 q267
           cases e267
           have HKY := Aside0.mk (keyOf_int_mk Try.underlying3 (wf_small (HWK.out _ (rd_mem p267 q267))))
           replace p267 := eq_true p267
           replace q267 := eq_true q267
           go_wp2_with (first | (at_lookup; refine wpList_lookup_own_int _ rfl _ _ 41 rfl 3 3 .i64 law3 Try.underlying41 Try.underlying3 (zero3 _) mB _ _ rfl (HMB.out _ HB.out) _ _ rfl HKY.out ?_; intro c_ hat_ hwc_; obtain rfl : c_ = t268 := (look_is HH.out hat_).trans (Option.some.inj A79.out)))
           go_roundg k2
           case measure => have := HJ25.out; have := HK2.out; omega
           case rel => exact ⟨(wrap64 (x137_2 + 1)), (by first | rfl | (simp; done) | (simp [*]; done) | (simp [*]; omega)), H', ⟨by have := HJ25.out; have := HK2.out; omega⟩, ⟨by (with_reducible repeat (first | apply Kd.R_alloc | apply Kd.R_drewN | apply Kd.R_drew)); exact HO_26.out⟩, ⟨by (with_reducible repeat (first | apply Kd.R_alloc | apply Kd.R_drewN | apply Kd.R_drew)); exact HO_135.out⟩, ⟨by (with_reducible repeat (first | apply Kd.R_alloc | apply Kd.R_drewN | apply Kd.R_drew)); exact HO_250001.out⟩, ⟨by (with_reducible repeat (first | apply Kd.R_alloc | apply Kd.R_drewN | apply Kd.R_drew)); exact HO_251001.out⟩, ⟨by (with_reducible repeat (first | apply Kd.R_alloc | apply Kd.R_drewN | apply Kd.R_drew)); exact HO_256001.out⟩, ⟨by (with_reducible repeat (first | refine blk_drewN ?_ _ | refine blk_drew ?_ | refine blk_alloc ?_ _)); exact BK249.out⟩, ⟨by (with_reducible repeat (first | refine blk_drewN ?_ _ | refine blk_drew ?_ | refine blk_alloc ?_ _)); exact BK250.out⟩, ⟨by (with_reducible repeat (first | refine blk_drewN ?_ _ | refine blk_drew ?_ | refine blk_alloc ?_ _)); exact BK255.out⟩, ⟨by repeat (first | (with_reducible first | exact HB.out | apply below_alloc | apply pw_below_drewN | apply below_drew1 | refine below_set ?_ GE249.out | refine below_set ?_ GE250.out | refine below_set ?_ GE255.out) | exact HB.out)⟩⟩
        ·rw [if_neg c78] at H
         exact absurd H (by simp)
       ·rw [if_neg c77] at H
        exact absurd H (by simp)
      ·rw [if_neg c76] at H
       have c76b0 : decide (x137_2 < (t256.length : Int)) = false := decide_eq_false c76
       clear c76
       replace H := Option.bind_eq_some_iff.mp H
       obtain ⟨t270, A860, H⟩ := H
       replace H : (if (t270.length : Int) = (t256.length : Int) then (SJ.l1 k2 l11 t270 0 ([] : List (S36)) t256 (t256.length : Int) 0 t251 t252) else (some false)) = some r := H
       have A86 := Aside0.mk A860
       clear A860
       by_cases c87 : (t270.length : Int) = (t256.length : Int)
       ·rw [if_pos c87] at H
        have c87b0 : ((t270.length : Int) == (t256.length : Int)) = true := beq_iff_eq.mpr c87
        have c87b1 : ((t270.length : Int) != (t256.length : Int)) = false := bne_eq_false_iff_eq.mpr c87
        have c87b2 : (t270.length == t256.length) = true := by first | simpa using c87 | (simp at c87 ⊢; omega)
        clear c87
        have H' := Aside0.mk H
        clear H
        have hnb88 := NB255_249.out
        have hnc88 := NB249_255.out
        have hnb89 := NB255_250.out
        have hnc89 := NB250_255.out
        have hcz90_0 : wr.cell? ⟨gb255, 0, none⟩ = some (.int .i64 t251) := (blk_cell BK255.out 0).trans rfl
        have hcz90_1 : wr.cell? ⟨gb255, 1, none⟩ = some (.slice Ao41 t252.length co41) := (blk_cell BK255.out 1).trans rfl
        have hfz90_0 := blk_frozen BK255.out 0
        have hfz90_1 := blk_frozen BK255.out 1
        have hsz90_1 : ∀ A_ B_ : Value, ((wr.setCell ⟨gb255, 0, none⟩ A_).setCell ⟨gb255, 1, none⟩ B_).cell? ⟨gb255, 1, none⟩ = some B_ := fun A_ B_ => World.cell?_setCell_same _ _ _ ((World.cell?_setCell_other _ _ _ _ (by simp)).trans hcz90_1)
        go_wp2_with (first | ((with_reducible refine gate_callee (f := 14) rfl ?_); refine goesL_ (some 162) rfl rfl Try.func14 (by kernel_rfl) rfl #[.agg #[.int .i64 t251, .slice Ao41 t252.length co41], .slice A11 l11.length c11] rfl (by (try simp only [List.map_toArray, List.map_cons, List.map_nil]); first | done | rfl | (simp only [List.length_drop, List.length_take]; rfl)) ?_; (with_reducible refine (span_Counts.calls k2 t251 _ _ t252 (fun k_ => k_ < w.heap.size) _ _ l11 t270 _ ?side1 ?side2 ?side3 A86.out).mono ?_); (case side1 => repeat (first | exact (Kd.R_reads' HO_256001.out).2.2 | (with_reducible refine Kd.C_alloc ?_ _) | (with_reducible refine Kd.C_drewN ?_ _) | (with_reducible refine Kd.C_drew ?_))); (case side2 => exact (Kd.R_reads' HO_256001.out).2.1); (case side3 => exact Kd.V_mk HC11.out (Kd.F_below (Kd.C_F k36_heap HR11.out) (by repeat (first | (with_reducible first | exact HB.out | apply below_alloc | apply pw_below_drewN | apply below_drew1 | refine below_set ?_ GE249.out | refine below_set ?_ GE250.out | refine below_set ?_ GE255.out) | exact HB.out)))); rintro e w91 ⟨v271, rfl, ho0, hb⟩; refine ⟨_, rfl, ?_⟩; have n0_ := Aside0.mk (Kd.R_below (by (with_reducible repeat (first | apply Kd.R_alloc | apply Kd.R_drewN | apply Kd.R_drew)); exact HO_26.out) hb); have n1_ := Aside0.mk (Kd.R_below (by (with_reducible repeat (first | apply Kd.R_alloc | apply Kd.R_drewN | apply Kd.R_drew)); exact HO_135.out) hb); have n2_ := Aside0.mk (Kd.R_below (by (with_reducible repeat (first | apply Kd.R_alloc | apply Kd.R_drewN | apply Kd.R_drew)); exact HO_250001.out) hb); have n3_ := Aside0.mk (Kd.R_below (by (with_reducible repeat (first | apply Kd.R_alloc | apply Kd.R_drewN | apply Kd.R_drew)); exact HO_251001.out) hb); have n4_ := Aside0.mk (Kd.R_below (by (with_reducible repeat (first | apply Kd.R_alloc | apply Kd.R_drewN | apply Kd.R_drew)); exact HO_256001.out) hb); have n5_ := Aside0.mk (Kd.R_lower (Kd.R_mono (ok' := fun k_ => True) ho0 (fun _ hk_ => trivial)) (below_size (by repeat (first | (with_reducible first | exact HB.out | apply below_alloc | apply pw_below_drewN | apply below_drew1 | refine below_set ?_ GE249.out | refine below_set ?_ GE250.out | refine below_set ?_ GE255.out) | exact HB.out)))); have n6_ := Aside0.mk (blk_below (g := gb249) (o := .cells #[.int .i64 t241, .slice Ao33 t242.length co33] 31 (0, 0)) (by (with_reducible repeat (first | refine blk_drewN ?_ _ | refine blk_drew ?_ | refine blk_alloc ?_ _)); exact BK249.out) hb); have n7_ := Aside0.mk (blk_below (g := gb250) (o := .cells #[.int .i64 t245, .slice Ao35 t246.length co35] 31 (0, 0)) (by (with_reducible repeat (first | refine blk_drewN ?_ _ | refine blk_drew ?_ | refine blk_alloc ?_ _)); exact BK250.out) hb); have n8_ := Aside0.mk (blk_below (g := gb255) (o := .cells #[.int .i64 t251, .slice Ao41 t252.length co41] 31 (0, 0)) (by (with_reducible repeat (first | refine blk_drewN ?_ _ | refine blk_drew ?_ | refine blk_alloc ?_ _)); exact BK255.out) hb); have n9_ := Aside0.mk (below_step (by repeat (first | (with_reducible first | exact HB.out | apply below_alloc | apply pw_below_drewN | apply below_drew1 | refine below_set ?_ GE249.out | refine below_set ?_ GE250.out | refine below_set ?_ GE255.out) | exact HB.out)) hb); clear HO_26; clear HO_135; clear HO_250001; clear HO_251001; clear HO_256001; clear BK249; clear BK250; clear BK255; clear HB; have HO_26 := n0_; have HO_135 := n1_; have HO_250001 := n2_; have HO_251001 := n3_; have HO_256001 := n4_; have HO272 := n5_; have BK249 := n6_; have BK250 := n7_; have BK255 := n8_; have HB := n9_; clear n0_ n1_ n2_ n3_ n4_ n5_ n6_ n7_ n8_ n9_; (try clear hb); (try clear hb2); (try clear hk); (try clear hi); (try clear ho0); obtain ⟨Ao92, co92, eo92⟩ := Kd.R_slice HO272.out; subst eo92))
        go_loopg [30, 31, 170] k2 (fun kq v30 v31 v170 w' => ∃ (x30_3 : Int) (x31_3 : List (S36)) (x170_3 : Int), v30 = .int .i64 x30_3 ∧ v170 = .int .i64 x170_3 ∧ Aside0 (SJ.l1 kq l11 t270 x30_3 x31_3 t256 (t256.length : Int) x170_3 t251 t252 = some r) ∧ Aside0 (kq ≤ k2) ∧ Aside0 (Kd.R (Kd.int .u64) 34 w' w.heap.size (fun _ => True) (.slice Ao92 t270.length co92) t270) ∧ Aside0 (Kd.R k36 36 w' w.heap.size (fun _ => True) v31 x31_3) ∧ Aside0 (Kd.R (Kd.int .i64) 3 w' w.heap.size (fun _ => True) (.slice Ao75 t256.length co75) t256) ∧ Aside0 (Kd.R k38 38 w' w.heap.size (fun k_ => some k_ ≠ ((.slice Ao35 t246.length co35) : Value).ownBlock ∧ some k_ ≠ ((.slice Ao41 t252.length co41) : Value).ownBlock) (.slice Ao33 t242.length co33) t242) ∧ Aside0 (Kd.R k38 38 w' w.heap.size (fun k_ => some k_ ≠ ((.slice Ao33 t242.length co33) : Value).ownBlock ∧ some k_ ≠ ((.slice Ao41 t252.length co41) : Value).ownBlock) (.slice Ao35 t246.length co35) t246) ∧ Aside0 (Kd.R k38 38 w' w.heap.size (fun k_ => some k_ ≠ ((.slice Ao33 t242.length co33) : Value).ownBlock ∧ some k_ ≠ ((.slice Ao35 t246.length co35) : Value).ownBlock) (.slice Ao41 t252.length co41) t252) ∧ Aside0 (w'.heap[gb249]? = some (.cells #[.int .i64 t241, (.slice Ao33 t242.length co33)] 31 (0, 0))) ∧ Aside0 (w'.heap[gb250]? = some (.cells #[.int .i64 t245, (.slice Ao35 t246.length co35)] 31 (0, 0))) ∧ Aside0 (w'.heap[gb255]? = some (.cells #[.int .i64 t251, (.slice Ao41 t252.length co41)] 31 (0, 0))) ∧ Aside0 (Below w.heap.size w w'))
        case atStart => exact ⟨(0), (([] : List (S36))), (0), (by first | rfl | (simp; done) | (simp [*]; done) | (simp [*]; omega)), (by first | rfl | (simp; done) | (simp [*]; done) | (simp [*]; omega)), H', ⟨Nat.le_refl _⟩, ⟨by (with_reducible repeat (first | apply Kd.R_alloc | apply Kd.R_drewN | apply Kd.R_drew)); exact HO272.out⟩, ⟨by first | exact Kd.R_nil _ _ _ _ _ | exact Kd.N_nil _ _ _ _ _ | exact Kd.V_nil _ _ _ _ _ | exact Kd.Q_nil _ _ _ _ _ | exact Kd.S_nil _ _ _ _ _⟩, ⟨by (with_reducible repeat (first | apply Kd.R_alloc | apply Kd.R_drewN | apply Kd.R_drew)); exact HO_26.out⟩, ⟨by (with_reducible repeat (first | apply Kd.R_alloc | apply Kd.R_drewN | apply Kd.R_drew)); exact HO_250001.out⟩, ⟨by (with_reducible repeat (first | apply Kd.R_alloc | apply Kd.R_drewN | apply Kd.R_drew)); exact HO_251001.out⟩, ⟨by (with_reducible repeat (first | apply Kd.R_alloc | apply Kd.R_drewN | apply Kd.R_drew)); exact HO_256001.out⟩, ⟨by (with_reducible repeat (first | refine blk_drewN ?_ _ | refine blk_drew ?_ | refine blk_alloc ?_ _)); exact BK249.out⟩, ⟨by (with_reducible repeat (first | refine blk_drewN ?_ _ | refine blk_drew ?_ | refine blk_alloc ?_ _)); exact BK250.out⟩, ⟨by (with_reducible repeat (first | refine blk_drewN ?_ _ | refine blk_drew ?_ | refine blk_alloc ?_ _)); exact BK255.out⟩, ⟨by repeat (first | (with_reducible first | exact HB.out | apply below_alloc | apply pw_below_drewN | apply below_drew1 | refine below_set ?_ GE249.out | refine below_set ?_ GE250.out | refine below_set ?_ GE255.out) | exact HB.out)⟩⟩
        case round =>
         clear H'
         try clear c1
         try clear p2
         try clear q2
         try clear hx2
         try clear c4
         try clear p6
         try clear c7
         try clear c8
         try clear c11
         try clear c12
         try clear c14
         try clear p26
         try clear q26
         try clear hx26
         try clear c47
         try clear c47b0
         try clear c47b1
         try clear p64
         try clear c74
         try clear c76
         try clear c76b0
         try clear c77
         try clear c77b0
         try clear c78
         try clear c78b0
         try clear c80
         try clear c80b0
         try clear c80b1
         try clear c81
         try clear c81b0
         try clear c83
         try clear c83b0
         try clear c84
         try clear c84b0
         try clear c85
         try clear c85b0
         try clear c87
         try clear c87b0
         try clear c87b1
         try clear c87b2
         try clear c88
         try clear c89
         try clear hcz90_0
         try clear hcz90_1
         try clear hfz90_0
         try clear hfz90_1
         try clear hx267_0
         try clear hx269_0
         try clear p2
         try clear p267
         try clear p269
         try clear q267
         try clear q269
         obtain ⟨x30_3, x31_3, x170_3, rfl, rfl, HA, HK3, HO_29, HO_31, HO_168, HO_250001, HO_251001, HO_256001, BK249, BK250, BK255, HB⟩ := hrel
         cases gk with
         | zero => exact absurd HA.out (by simp [SJ.l1])
         | succ k3 =>
          have H := HA.out
          clear HA
          simp only [SJ.l1] at H
          by_cases c93 : x170_3 < (t256.length : Int)
          ·rw [if_pos c93] at H
           have c93b0 : decide (x170_3 < (t256.length : Int)) = true := decide_eq_true c93
           clear c93
           by_cases c94 : 0 ≤ x170_3
           ·rw [if_pos c94] at H
            have c94b0 : decide (0 ≤ x170_3) = true := decide_eq_true c94
            clear c94
            by_cases c95 : x170_3 < (t256.length : Int)
            ·rw [if_pos c95] at H
             have c95b0 : decide (x170_3 < (t256.length : Int)) = true := decide_eq_true c95
             clear c95
             have HC96 := Aside0.mk H
             clear H
             have p273 : 0 ≤ (x170_3 : Int) := of_decide_eq_true (by first | (with_reducible assumption) | assumption)
             have q273 : x170_3 < (t256.length : Int) := of_decide_eq_true (by first | (with_reducible assumption) | assumption)
             obtain ⟨ad273, e273, hx273_0⟩ := Kd.at_int (Kd.R_reads' HO_168.out).2.2 x170_3 p273 q273
             cases e273
             replace p273 := eq_true p273
             replace q273 := eq_true q273
             go_upto_region 41 with (fail)
             go_cut [187] (fun v187 wc => ∃ (kq : Nat) (x187_95 : Bool), v187 = .bool x187_95 ∧ Aside0 (SJ.j3 kq l11 t270 x30_3 x31_3 x170_3 0 t256 (t256.length : Int) x170_3 x187_95 t251 t252 = some r) ∧ Aside0 (kq ≤ k3) ∧ Aside0 (Kd.R (Kd.int .u64) 34 wc w.heap.size (fun _ => True) (.slice Ao92 t270.length co92) t270) ∧ Aside0 (Kd.R k36 36 wc w.heap.size (fun _ => True) u31 x31_3) ∧ Aside0 (Kd.R (Kd.int .i64) 3 wc w.heap.size (fun _ => True) (.slice (some ad273) t256.length co75) t256) ∧ Aside0 (Kd.R k38 38 wc w.heap.size (fun k_ => some k_ ≠ ((.slice Ao35 t246.length co35) : Value).ownBlock ∧ some k_ ≠ ((.slice Ao41 t252.length co41) : Value).ownBlock) (.slice Ao33 t242.length co33) t242) ∧ Aside0 (Kd.R k38 38 wc w.heap.size (fun k_ => some k_ ≠ ((.slice Ao33 t242.length co33) : Value).ownBlock ∧ some k_ ≠ ((.slice Ao41 t252.length co41) : Value).ownBlock) (.slice Ao35 t246.length co35) t246) ∧ Aside0 (Kd.R k38 38 wc w.heap.size (fun k_ => some k_ ≠ ((.slice Ao33 t242.length co33) : Value).ownBlock ∧ some k_ ≠ ((.slice Ao35 t246.length co35) : Value).ownBlock) (.slice Ao41 t252.length co41) t252) ∧ Aside0 (wc.heap[gb249]? = some (.cells #[.int .i64 t241, (.slice Ao33 t242.length co33)] 31 (0, 0))) ∧ Aside0 (wc.heap[gb250]? = some (.cells #[.int .i64 t245, (.slice Ao35 t246.length co35)] 31 (0, 0))) ∧ Aside0 (wc.heap[gb255]? = some (.cells #[.int .i64 t251, (.slice Ao41 t252.length co41)] 31 (0, 0))) ∧ Aside0 (Below w.heap.size w wc))
             case first =>
              have H := HC96.out
              clear HC96
              by_cases c97 : x30_3 < (l11.length : Int)
              ·rw [if_pos c97] at H
               have c97b0 : decide (x30_3 < (l11.length : Int)) = true := decide_eq_true c97
               clear c97
               (first | rw [c97b0] | (simp only [i64_w, i32_w]; rw [c97b0]) | skip)
               by_cases c98 : 0 ≤ x30_3
               ·rw [if_pos c98] at H
                have c98b0 : decide (0 ≤ x30_3) = true := decide_eq_true c98
                clear c98
                have H' := Aside0.mk H
                clear H
                have p274 : 0 ≤ (x30_3 : Int) := of_decide_eq_true (by first | (with_reducible assumption) | assumption)
                have q274 : x30_3 < (l11.length : Int) := of_decide_eq_true (by first | (with_reducible assumption) | assumption)
                obtain ⟨ad274, e274, hx274_0, hx274_1⟩ := at_T36 HR11.out x30_3 p274 q274
                cases e274
                replace hx274_0 := (HB.out.cell (World.block_lt_of_cell? w _ hx274_0)).trans hx274_0
                replace hx274_1 := (HB.out.cell (World.block_lt_of_cell? w _ hx274_1)).trans hx274_1
                replace p274 := eq_true p274
                replace q274 := eq_true q274
                go_wp2
                go_meet
                case rel => exact ⟨_, ((((rd_T36 l11 x30_3).f0) == (rd t256 x170_3))), (by first | rfl | (simp; done) | (simp [*]; done) | (simp [*]; omega)), H', ⟨by have := HJ25.out; have := HK2.out; have := HK3.out; first | omega | exact Nat.le_refl _⟩, ⟨by (with_reducible repeat (first | apply Kd.R_alloc | apply Kd.R_drewN | apply Kd.R_drew)); exact HO_29.out⟩, ⟨by (with_reducible repeat (first | apply Kd.R_alloc | apply Kd.R_drewN | apply Kd.R_drew)); exact HO_31.out⟩, ⟨by (with_reducible repeat (first | apply Kd.R_alloc | apply Kd.R_drewN | apply Kd.R_drew)); exact HO_168.out⟩, ⟨by (with_reducible repeat (first | apply Kd.R_alloc | apply Kd.R_drewN | apply Kd.R_drew)); exact HO_250001.out⟩, ⟨by (with_reducible repeat (first | apply Kd.R_alloc | apply Kd.R_drewN | apply Kd.R_drew)); exact HO_251001.out⟩, ⟨by (with_reducible repeat (first | apply Kd.R_alloc | apply Kd.R_drewN | apply Kd.R_drew)); exact HO_256001.out⟩, ⟨by (with_reducible repeat (first | refine blk_drewN ?_ _ | refine blk_drew ?_ | refine blk_alloc ?_ _)); exact BK249.out⟩, ⟨by (with_reducible repeat (first | refine blk_drewN ?_ _ | refine blk_drew ?_ | refine blk_alloc ?_ _)); exact BK250.out⟩, ⟨by (with_reducible repeat (first | refine blk_drewN ?_ _ | refine blk_drew ?_ | refine blk_alloc ?_ _)); exact BK255.out⟩, ⟨by repeat (first | (with_reducible first | exact HB.out | apply below_alloc | apply pw_below_drewN | apply below_drew1 | refine below_set ?_ GE249.out | refine below_set ?_ GE250.out | refine below_set ?_ GE255.out) | exact HB.out)⟩⟩
               ·rw [if_neg c98] at H
                exact absurd H (by simp)
              ·rw [if_neg c97] at H
               have c97b0 : decide (x30_3 < (l11.length : Int)) = false := decide_eq_false c97
               clear c97
               (first | rw [c97b0] | (simp only [i64_w, i32_w]; rw [c97b0]) | skip)
               have H' := Aside0.mk H
               clear H
               go_wp2
               go_meet
               case rel => exact ⟨_, (false), (by first | rfl | (simp; done) | (simp [*]; done) | (simp [*]; omega)), H', ⟨by have := HJ25.out; have := HK2.out; have := HK3.out; first | omega | exact Nat.le_refl _⟩, ⟨by (with_reducible repeat (first | apply Kd.R_alloc | apply Kd.R_drewN | apply Kd.R_drew)); exact HO_29.out⟩, ⟨by (with_reducible repeat (first | apply Kd.R_alloc | apply Kd.R_drewN | apply Kd.R_drew)); exact HO_31.out⟩, ⟨by (with_reducible repeat (first | apply Kd.R_alloc | apply Kd.R_drewN | apply Kd.R_drew)); exact HO_168.out⟩, ⟨by (with_reducible repeat (first | apply Kd.R_alloc | apply Kd.R_drewN | apply Kd.R_drew)); exact HO_250001.out⟩, ⟨by (with_reducible repeat (first | apply Kd.R_alloc | apply Kd.R_drewN | apply Kd.R_drew)); exact HO_251001.out⟩, ⟨by (with_reducible repeat (first | apply Kd.R_alloc | apply Kd.R_drewN | apply Kd.R_drew)); exact HO_256001.out⟩, ⟨by (with_reducible repeat (first | refine blk_drewN ?_ _ | refine blk_drew ?_ | refine blk_alloc ?_ _)); exact BK249.out⟩, ⟨by (with_reducible repeat (first | refine blk_drewN ?_ _ | refine blk_drew ?_ | refine blk_alloc ?_ _)); exact BK250.out⟩, ⟨by (with_reducible repeat (first | refine blk_drewN ?_ _ | refine blk_drew ?_ | refine blk_alloc ?_ _)); exact BK255.out⟩, ⟨by repeat (first | (with_reducible first | exact HB.out | apply below_alloc | apply pw_below_drewN | apply below_drew1 | refine below_set ?_ GE249.out | refine below_set ?_ GE250.out | refine below_set ?_ GE255.out) | exact HB.out)⟩⟩
             case rest =>
              clear HC96
              try clear c1
              try clear p2
              try clear q2
              try clear hx2
              try clear c4
              try clear p6
              try clear c7
              try clear c8
              try clear c9
              try clear c11
              try clear c12
              try clear c14
              try clear p26
              try clear q26
              try clear hx26
              try clear p27
              try clear q27
              try clear hx27
              try clear c47
              try clear c47b0
              try clear c47b1
              try clear p64
              try clear c74
              try clear c76
              try clear c76b0
              try clear c77
              try clear c77b0
              try clear c78
              try clear c78b0
              try clear c80
              try clear c80b0
              try clear c80b1
              try clear c81
              try clear c81b0
              try clear c83
              try clear c83b0
              try clear c84
              try clear c84b0
              try clear c85
              try clear c85b0
              try clear c87
              try clear c87b0
              try clear c87b1
              try clear c87b2
              try clear c88
              try clear c89
              try clear c93
              try clear c93b0
              try clear c94
              try clear c94b0
              try clear c95
              try clear c95b0
              try clear c97
              try clear c97b0
              try clear c98
              try clear c98b0
              try clear hcz90_0
              try clear hcz90_1
              try clear hfz90_0
              try clear hfz90_1
              try clear hx267_0
              try clear hx269_0
              try clear hx273_0
              try clear hx274_0
              try clear hx274_1
              try clear p2
              try clear p26
              try clear p267
              try clear p269
              try clear p273
              try clear p274
              try clear p6
              try clear p64
              try clear q2
              try clear q26
              try clear q267
              try clear q269
              try clear q273
              try clear q274
              obtain ⟨kq, x187_95, rfl, HA, HJ95, HO_29, HO_31, HO_168, HO_250001, HO_251001, HO_256001, BK249, BK250, BK255, HB⟩ := hcut
              cases kq with
              | zero => exact absurd HA.out (by simp [SJ.j3])
              | succ kj95 =>
               have H := HA.out
               clear HA
               simp only [SJ.j3] at H
               by_cases c99 : x187_95 = true
               ·subst c99
                have H1 : (if 0 ≤ x30_3 then (if x30_3 < (l11.length : Int) then (if ((rd_T36 l11 x30_3).f1) > 0 then (if x31_3.length < 8796093022208 then (if 0 ≤ x170_3 then (if x170_3 < (t270.length : Int) then (if (rd t270 x170_3) = ((rd_T36 l11 x30_3).f1) then (SJ.l1 kj95 l11 t270 (wrap64 (x30_3 + 1)) (x31_3 ++ [(⟨(rd_T36 l11 x30_3).f0, (rd_T36 l11 x30_3).f1⟩ : S36)]) t256 (t256.length : Int) (wrap64 (x170_3 + 1)) t251 t252) else (some false)) else (none)) else (none)) else (none)) else (if 0 ≤ x170_3 then (if x170_3 < (t270.length : Int) then (if (rd t270 x170_3) = ((rd_T36 l11 x30_3).f1) then (SJ.l1 kj95 l11 t270 (wrap64 (x30_3 + 1)) x31_3 t256 (t256.length : Int) (wrap64 (x170_3 + 1)) t251 t252) else (some false)) else (none)) else (none))) else (none)) else (none)) = some r := by rw [if_pos rfl] at H; exact H
                clear H
                have H := H1
                clear H1
                by_cases c100 : 0 ≤ x30_3
                ·rw [if_pos c100] at H
                 have c100b0 : decide (0 ≤ x30_3) = true := decide_eq_true c100
                 clear c100
                 by_cases c101 : x30_3 < (l11.length : Int)
                 ·rw [if_pos c101] at H
                  have c101b0 : decide (x30_3 < (l11.length : Int)) = true := decide_eq_true c101
                  clear c101
                  by_cases c102 : ((rd_T36 l11 x30_3).f1) > 0
                  ·rw [if_pos c102] at H
                   have c102b0 : decide (0 < ((rd_T36 l11 x30_3).f1)) = true := decide_eq_true c102
                   clear c102
                   by_cases c103 : x31_3.length < 8796093022208
                   ·rw [if_pos c103] at H
                    have LMc103 := Aside0.mk c103
                    clear c103
                    obtain ⟨y277, hy277⟩ : ∃ y_ : List (S36), y_ = (x31_3 ++ [(⟨(rd_T36 l11 x30_3).f0, (rd_T36 l11 x30_3).f1⟩ : S36)]) := ⟨_, rfl⟩
                    replace H : (if 0 ≤ x170_3 then (if x170_3 < (t270.length : Int) then (if (rd t270 x170_3) = ((rd_T36 l11 x30_3).f1) then (SJ.l1 kj95 l11 t270 (wrap64 (x30_3 + 1)) y277 t256 (t256.length : Int) (wrap64 (x170_3 + 1)) t251 t252) else (some false)) else (none)) else (none)) = some r := by first | (rw [hy277]; with_reducible exact H) | (have H2_ := (Option.bind_some _ _).symm.trans H; rw [hy277]; with_reducible exact H2_) | (have H2_ := (Option.bind_some _ _).symm.trans H; with_reducible exact H2_) | with_reducible exact H | (rw [hy277]; exact H) | exact H
                    have Ny277 := Aside0.mk hy277
                    clear hy277
                    by_cases c104 : 0 ≤ x170_3
                    ·rw [if_pos c104] at H
                     have c104b0 : decide (0 ≤ x170_3) = true := decide_eq_true c104
                     clear c104
                     by_cases c105 : x170_3 < (t270.length : Int)
                     ·rw [if_pos c105] at H
                      have c105b0 : decide (x170_3 < (t270.length : Int)) = true := decide_eq_true c105
                      clear c105
                      by_cases c106 : (rd t270 x170_3) = ((rd_T36 l11 x30_3).f1)
                      ·rw [if_pos c106] at H
                       have c106b0 : ((rd t270 x170_3) == ((rd_T36 l11 x30_3).f1)) = true := beq_iff_eq.mpr c106
                       have c106b1 : ((rd t270 x170_3) != ((rd_T36 l11 x30_3).f1)) = false := bne_eq_false_iff_eq.mpr c106
                       clear c106
                       have H' := Aside0.mk H
                       clear H
                       have p275 : 0 ≤ (x30_3 : Int) := of_decide_eq_true (by first | (with_reducible assumption) | assumption)
                       have q275 : x30_3 < (l11.length : Int) := of_decide_eq_true (by first | (with_reducible assumption) | assumption)
                       obtain ⟨ad275, e275, hx275_0, hx275_1⟩ := at_T36 HR11.out x30_3 p275 q275
                       cases e275
                       replace hx275_0 := (HB.out.cell (World.block_lt_of_cell? w _ hx275_0)).trans hx275_0
                       replace hx275_1 := (HB.out.cell (World.block_lt_of_cell? w _ hx275_1)).trans hx275_1
                       replace p275 := eq_true p275
                       replace q275 := eq_true q275
                       have p276 : 0 ≤ (x30_3 : Int) := of_decide_eq_true (by first | (with_reducible assumption) | assumption)
                       have q276 : x30_3 < (l11.length : Int) := of_decide_eq_true (by first | (with_reducible assumption) | assumption)
                       obtain ⟨ad276, e276, hx276_0, hx276_1⟩ := at_T36 HR11.out x30_3 p276 q276
                       obtain rfl : ad275 = ad276 := (by injection e276)
                       replace hx276_0 := (HB.out.cell (World.block_lt_of_cell? w _ hx276_0)).trans hx276_0
                       replace hx276_1 := (HB.out.cell (World.block_lt_of_cell? w _ hx276_1)).trans hx276_1
                       replace p276 := eq_true p276
                       replace q276 := eq_true q276
                       go_wp2_with (first | ((with_reducible refine gate_builtin (b := .append) (xs := #[.tmp 195, .tmp 200]) rfl ?_); (try (refine gate_guard (by rfl) ?_; dsimp only)); at_builtin; refine Kd.R_append k36 (w0 := w) w.heap.size rfl (.tmp 195) (.tmp 200) 25 36 (.agg #[(.int .i64 0), (.int .u64 0)]) 16 rfl Try.underlying25 info36 rfl (by decide) (by omega) u31 x31_3 (⟨(rd_T36 l11 x30_3).f0, (rd_T36 l11 x30_3).f1⟩ : S36) [.int .i64 ((rd_T36 l11 x30_3).f0), .int .u64 ((rd_T36 l11 x30_3).f1)] (fun _ => True) (fun _ => False) rfl rfl ?aP (fun _ hk => hk.elim) ?aF ?aO ?aB ?aS ?aL ?_; (case aP => exact k36_mkM _ _ _ (⟨(rd_T36 l11 x30_3).f0, (rd_T36 l11 x30_3).f1⟩ : S36)); (case aB => exact (by repeat (first | (with_reducible first | exact HB.out | apply below_alloc | apply pw_below_drewN | apply below_drew1 | refine below_set ?_ GE249.out | refine below_set ?_ GE250.out | refine below_set ?_ GE255.out) | exact HB.out))); (case aF => exact (fun _ _ => trivial)); (case aO => exact (by (with_reducible repeat (first | apply Kd.R_alloc | apply Kd.R_drewN | apply Kd.R_drew)); exact HO_31.out)); (case aS => exact (below_size (by repeat (first | (with_reducible first | exact HB.out | apply below_alloc | apply pw_below_drewN | apply below_drew1 | refine below_set ?_ GE249.out | refine below_set ?_ GE250.out | refine below_set ?_ GE255.out) | exact HB.out)))); (case aL => have := LMc103.out; omega); intro v278 w107 ho hb hg hat; rw [← Ny277.out] at ho; have n0_ := Aside0.mk (Kd.R_over' (by (with_reducible repeat (first | apply Kd.R_alloc | apply Kd.R_drewN | apply Kd.R_drew)); exact HO_29.out) (Kd.R_typed (by (with_reducible repeat (first | apply Kd.R_alloc | apply Kd.R_drewN | apply Kd.R_drew)); exact HO_31.out)) (by decide) hg); have n1_ := Aside0.mk (Kd.R_over' (by (with_reducible repeat (first | apply Kd.R_alloc | apply Kd.R_drewN | apply Kd.R_drew)); exact HO_168.out) (Kd.R_typed (by (with_reducible repeat (first | apply Kd.R_alloc | apply Kd.R_drewN | apply Kd.R_drew)); exact HO_31.out)) (by decide) hg); have n2_ := Aside0.mk (Kd.R_over' (by (with_reducible repeat (first | apply Kd.R_alloc | apply Kd.R_drewN | apply Kd.R_drew)); exact HO_250001.out) (Kd.R_typed (by (with_reducible repeat (first | apply Kd.R_alloc | apply Kd.R_drewN | apply Kd.R_drew)); exact HO_31.out)) (by decide) hg); have n3_ := Aside0.mk (Kd.R_over' (by (with_reducible repeat (first | apply Kd.R_alloc | apply Kd.R_drewN | apply Kd.R_drew)); exact HO_251001.out) (Kd.R_typed (by (with_reducible repeat (first | apply Kd.R_alloc | apply Kd.R_drewN | apply Kd.R_drew)); exact HO_31.out)) (by decide) hg); have n4_ := Aside0.mk (Kd.R_over' (by (with_reducible repeat (first | apply Kd.R_alloc | apply Kd.R_drewN | apply Kd.R_drew)); exact HO_256001.out) (Kd.R_typed (by (with_reducible repeat (first | apply Kd.R_alloc | apply Kd.R_drewN | apply Kd.R_drew)); exact HO_31.out)) (by decide) hg); have n5_ := Aside0.mk (blk_grown (g := gb249) (o := .cells #[.int .i64 t241, .slice Ao33 t242.length co33] 31 (0, 0)) (by (with_reducible repeat (first | refine blk_drewN ?_ _ | refine blk_drew ?_ | refine blk_alloc ?_ _)); exact BK249.out) hg (Kd.R_ne HO_31.out BK249.out (by decide))); have n6_ := Aside0.mk (blk_grown (g := gb250) (o := .cells #[.int .i64 t245, .slice Ao35 t246.length co35] 31 (0, 0)) (by (with_reducible repeat (first | refine blk_drewN ?_ _ | refine blk_drew ?_ | refine blk_alloc ?_ _)); exact BK250.out) hg (Kd.R_ne HO_31.out BK250.out (by decide))); have n7_ := Aside0.mk (blk_grown (g := gb255) (o := .cells #[.int .i64 t251, .slice Ao41 t252.length co41] 31 (0, 0)) (by (with_reducible repeat (first | refine blk_drewN ?_ _ | refine blk_drew ?_ | refine blk_alloc ?_ _)); exact BK255.out) hg (Kd.R_ne HO_31.out BK255.out (by decide))); have n8_ := Aside0.mk (hb); have n9_ := Aside0.mk (ho); clear HO_29; clear HO_168; clear HO_250001; clear HO_251001; clear HO_256001; clear BK249; clear BK250; clear BK255; clear HB; clear HO_31; have HO_29 := n0_; have HO_168 := n1_; have HO_250001 := n2_; have HO_251001 := n3_; have HO_256001 := n4_; have BK249 := n5_; have BK250 := n6_; have BK255 := n7_; have HB := n8_; have HO279 := n9_; clear n0_ n1_ n2_ n3_ n4_ n5_ n6_ n7_ n8_ n9_; clear ho hb hg hat; have p280 : 0 ≤ (x170_3 : Int) := of_decide_eq_true (by first | (with_reducible assumption) | assumption); have q280 : x170_3 < (t270.length : Int) := of_decide_eq_true (by first | (with_reducible assumption) | assumption); obtain ⟨ad280, e280, hx280_0⟩ := Kd.at_int (Kd.R_reads' HO_29.out).2.2 x170_3 p280 q280; cases e280; replace p280 := eq_true p280; replace q280 := eq_true q280))
                       go_roundg kj95
                       case measure => have := HJ25.out; have := HK2.out; have := HK3.out; have := HJ95.out; omega
                       case rel => exact ⟨(wrap64 (x30_3 + 1)), (y277), (wrap64 (x170_3 + 1)), (by first | rfl | (simp; done) | (simp [*]; done) | (simp [*]; omega)), (by first | rfl | (simp; done) | (simp [*]; done) | (simp [*]; omega)), H', ⟨by have := HJ25.out; have := HK2.out; have := HK3.out; have := HJ95.out; omega⟩, ⟨by (with_reducible repeat (first | apply Kd.R_alloc | apply Kd.R_drewN | apply Kd.R_drew)); exact HO_29.out⟩, ⟨by (with_reducible repeat (first | apply Kd.R_alloc | apply Kd.R_drewN | apply Kd.R_drew)); exact HO279.out⟩, ⟨by (with_reducible repeat (first | apply Kd.R_alloc | apply Kd.R_drewN | apply Kd.R_drew)); exact HO_168.out⟩, ⟨by (with_reducible repeat (first | apply Kd.R_alloc | apply Kd.R_drewN | apply Kd.R_drew)); exact HO_250001.out⟩, ⟨by (with_reducible repeat (first | apply Kd.R_alloc | apply Kd.R_drewN | apply Kd.R_drew)); exact HO_251001.out⟩, ⟨by (with_reducible repeat (first | apply Kd.R_alloc | apply Kd.R_drewN | apply Kd.R_drew)); exact HO_256001.out⟩, ⟨by (with_reducible repeat (first | refine blk_drewN ?_ _ | refine blk_drew ?_ | refine blk_alloc ?_ _)); exact BK249.out⟩, ⟨by (with_reducible repeat (first | refine blk_drewN ?_ _ | refine blk_drew ?_ | refine blk_alloc ?_ _)); exact BK250.out⟩, ⟨by (with_reducible repeat (first | refine blk_drewN ?_ _ | refine blk_drew ?_ | refine blk_alloc ?_ _)); exact BK255.out⟩, ⟨by repeat (first | (with_reducible first | exact HB.out | apply below_alloc | apply pw_below_drewN | apply below_drew1 | refine below_set ?_ GE249.out | refine below_set ?_ GE250.out | refine below_set ?_ GE255.out) | exact HB.out)⟩⟩
                      ·rw [if_neg c106] at H
                       have c106b0 : ((rd t270 x170_3) == ((rd_T36 l11 x30_3).f1)) = false := beq_eq_false_iff_ne.mpr c106
                       have c106b1 : ((rd t270 x170_3) != ((rd_T36 l11 x30_3).f1)) = true := bne_iff_ne.mpr c106
                       exact absurd ((Option.some.inj H).trans hr_.out) (by decide)
                     ·rw [if_neg c105] at H
                      exact absurd H (by simp)
                    ·rw [if_neg c104] at H
                     exact absurd H (by simp)
                   ·rw [if_neg c103] at H
                    exact absurd H (by simp)
                  ·rw [if_neg c102] at H
                   have c102b0 : decide (0 < ((rd_T36 l11 x30_3).f1)) = false := decide_eq_false c102
                   clear c102
                   by_cases c108 : 0 ≤ x170_3
                   ·rw [if_pos c108] at H
                    have c108b0 : decide (0 ≤ x170_3) = true := decide_eq_true c108
                    clear c108
                    by_cases c109 : x170_3 < (t270.length : Int)
                    ·rw [if_pos c109] at H
                     have c109b0 : decide (x170_3 < (t270.length : Int)) = true := decide_eq_true c109
                     clear c109
                     by_cases c110 : (rd t270 x170_3) = ((rd_T36 l11 x30_3).f1)
                     ·rw [if_pos c110] at H
                      have c110b0 : ((rd t270 x170_3) == ((rd_T36 l11 x30_3).f1)) = true := beq_iff_eq.mpr c110
                      have c110b1 : ((rd t270 x170_3) != ((rd_T36 l11 x30_3).f1)) = false := bne_eq_false_iff_eq.mpr c110
                      clear c110
                      have H' := Aside0.mk H
                      clear H
                      have p275 : 0 ≤ (x30_3 : Int) := of_decide_eq_true (by first | (with_reducible assumption) | assumption)
                      have q275 : x30_3 < (l11.length : Int) := of_decide_eq_true (by first | (with_reducible assumption) | assumption)
                      obtain ⟨ad275, e275, hx275_0, hx275_1⟩ := at_T36 HR11.out x30_3 p275 q275
                      cases e275
                      replace hx275_0 := (HB.out.cell (World.block_lt_of_cell? w _ hx275_0)).trans hx275_0
                      replace hx275_1 := (HB.out.cell (World.block_lt_of_cell? w _ hx275_1)).trans hx275_1
                      replace p275 := eq_true p275
                      replace q275 := eq_true q275
                      have p281 : 0 ≤ (x170_3 : Int) := of_decide_eq_true (by first | (with_reducible assumption) | assumption)
                      have q281 : x170_3 < (t270.length : Int) := of_decide_eq_true (by first | (with_reducible assumption) | assumption)
                      obtain ⟨ad281, e281, hx281_0⟩ := Kd.at_int (Kd.R_reads' HO_29.out).2.2 x170_3 p281 q281
                      cases e281
                      replace p281 := eq_true p281
                      replace q281 := eq_true q281
                      go_wp2
                      go_roundg kj95
                      case measure => have := HJ25.out; have := HK2.out; have := HK3.out; have := HJ95.out; omega
                      case rel => exact ⟨(wrap64 (x30_3 + 1)), (x31_3), (wrap64 (x170_3 + 1)), (by first | rfl | (simp; done) | (simp [*]; done) | (simp [*]; omega)), (by first | rfl | (simp; done) | (simp [*]; done) | (simp [*]; omega)), H', ⟨by have := HJ25.out; have := HK2.out; have := HK3.out; have := HJ95.out; omega⟩, ⟨by (with_reducible repeat (first | apply Kd.R_alloc | apply Kd.R_drewN | apply Kd.R_drew)); exact HO_29.out⟩, ⟨by (with_reducible repeat (first | apply Kd.R_alloc | apply Kd.R_drewN | apply Kd.R_drew)); exact HO_31.out⟩, ⟨by (with_reducible repeat (first | apply Kd.R_alloc | apply Kd.R_drewN | apply Kd.R_drew)); exact HO_168.out⟩, ⟨by (with_reducible repeat (first | apply Kd.R_alloc | apply Kd.R_drewN | apply Kd.R_drew)); exact HO_250001.out⟩, ⟨by (with_reducible repeat (first | apply Kd.R_alloc | apply Kd.R_drewN | apply Kd.R_drew)); exact HO_251001.out⟩, ⟨by (with_reducible repeat (first | apply Kd.R_alloc | apply Kd.R_drewN | apply Kd.R_drew)); exact HO_256001.out⟩, ⟨by (with_reducible repeat (first | refine blk_drewN ?_ _ | refine blk_drew ?_ | refine blk_alloc ?_ _)); exact BK249.out⟩, ⟨by (with_reducible repeat (first | refine blk_drewN ?_ _ | refine blk_drew ?_ | refine blk_alloc ?_ _)); exact BK250.out⟩, ⟨by (with_reducible repeat (first | refine blk_drewN ?_ _ | refine blk_drew ?_ | refine blk_alloc ?_ _)); exact BK255.out⟩, ⟨by repeat (first | (with_reducible first | exact HB.out | apply below_alloc | apply pw_below_drewN | apply below_drew1 | refine below_set ?_ GE249.out | refine below_set ?_ GE250.out | refine below_set ?_ GE255.out) | exact HB.out)⟩⟩
                     ·rw [if_neg c110] at H
                      have c110b0 : ((rd t270 x170_3) == ((rd_T36 l11 x30_3).f1)) = false := beq_eq_false_iff_ne.mpr c110
                      have c110b1 : ((rd t270 x170_3) != ((rd_T36 l11 x30_3).f1)) = true := bne_iff_ne.mpr c110
                      exact absurd ((Option.some.inj H).trans hr_.out) (by decide)
                    ·rw [if_neg c109] at H
                     exact absurd H (by simp)
                   ·rw [if_neg c108] at H
                    exact absurd H (by simp)
                 ·rw [if_neg c101] at H
                  exact absurd H (by simp)
                ·rw [if_neg c100] at H
                 exact absurd H (by simp)
               ·replace c99 := Bool.eq_false_iff.mpr c99
                subst c99
                have H1 : (if 0 ≤ x170_3 then (if x170_3 < (t270.length : Int) then (if (rd t270 x170_3) = 0 then (SJ.l1 kj95 l11 t270 x30_3 x31_3 t256 (t256.length : Int) (wrap64 (x170_3 + 1)) t251 t252) else (some false)) else (none)) else (none)) = some r := by rw [if_neg (show ¬ (false = true) by decide)] at H; exact H
                clear H
                have H := H1
                clear H1
                by_cases c111 : 0 ≤ x170_3
                ·rw [if_pos c111] at H
                 have c111b0 : decide (0 ≤ x170_3) = true := decide_eq_true c111
                 clear c111
                 by_cases c112 : x170_3 < (t270.length : Int)
                 ·rw [if_pos c112] at H
                  have c112b0 : decide (x170_3 < (t270.length : Int)) = true := decide_eq_true c112
                  clear c112
                  by_cases c113 : (rd t270 x170_3) = 0
                  ·rw [if_pos c113] at H
                   have c113b0 : ((rd t270 x170_3) == 0) = true := beq_iff_eq.mpr c113
                   have c113b1 : ((rd t270 x170_3) != 0) = false := bne_eq_false_iff_eq.mpr c113
                   clear c113
                   have H' := Aside0.mk H
                   clear H
                   have p282 : 0 ≤ (x170_3 : Int) := of_decide_eq_true (by first | (with_reducible assumption) | assumption)
                   have q282 : x170_3 < (t270.length : Int) := of_decide_eq_true (by first | (with_reducible assumption) | assumption)
                   obtain ⟨ad282, e282, hx282_0⟩ := Kd.at_int (Kd.R_reads' HO_29.out).2.2 x170_3 p282 q282
                   cases e282
                   replace p282 := eq_true p282
                   replace q282 := eq_true q282
                   go_wp2
                   go_roundg kj95
                   case measure => have := HJ25.out; have := HK2.out; have := HK3.out; have := HJ95.out; omega
                   case rel => exact ⟨(x30_3), (x31_3), (wrap64 (x170_3 + 1)), (by first | rfl | (simp; done) | (simp [*]; done) | (simp [*]; omega)), (by first | rfl | (simp; done) | (simp [*]; done) | (simp [*]; omega)), H', ⟨by have := HJ25.out; have := HK2.out; have := HK3.out; have := HJ95.out; omega⟩, ⟨by (with_reducible repeat (first | apply Kd.R_alloc | apply Kd.R_drewN | apply Kd.R_drew)); exact HO_29.out⟩, ⟨by (with_reducible repeat (first | apply Kd.R_alloc | apply Kd.R_drewN | apply Kd.R_drew)); exact HO_31.out⟩, ⟨by (with_reducible repeat (first | apply Kd.R_alloc | apply Kd.R_drewN | apply Kd.R_drew)); exact HO_168.out⟩, ⟨by (with_reducible repeat (first | apply Kd.R_alloc | apply Kd.R_drewN | apply Kd.R_drew)); exact HO_250001.out⟩, ⟨by (with_reducible repeat (first | apply Kd.R_alloc | apply Kd.R_drewN | apply Kd.R_drew)); exact HO_251001.out⟩, ⟨by (with_reducible repeat (first | apply Kd.R_alloc | apply Kd.R_drewN | apply Kd.R_drew)); exact HO_256001.out⟩, ⟨by (with_reducible repeat (first | refine blk_drewN ?_ _ | refine blk_drew ?_ | refine blk_alloc ?_ _)); exact BK249.out⟩, ⟨by (with_reducible repeat (first | refine blk_drewN ?_ _ | refine blk_drew ?_ | refine blk_alloc ?_ _)); exact BK250.out⟩, ⟨by (with_reducible repeat (first | refine blk_drewN ?_ _ | refine blk_drew ?_ | refine blk_alloc ?_ _)); exact BK255.out⟩, ⟨by repeat (first | (with_reducible first | exact HB.out | apply below_alloc | apply pw_below_drewN | apply below_drew1 | refine below_set ?_ GE249.out | refine below_set ?_ GE250.out | refine below_set ?_ GE255.out) | exact HB.out)⟩⟩
                  ·rw [if_neg c113] at H
                   have c113b0 : ((rd t270 x170_3) == 0) = false := beq_eq_false_iff_ne.mpr c113
                   have c113b1 : ((rd t270 x170_3) != 0) = true := bne_iff_ne.mpr c113
                   exact absurd ((Option.some.inj H).trans hr_.out) (by decide)
                 ·rw [if_neg c112] at H
                  exact absurd H (by simp)
                ·rw [if_neg c111] at H
                 exact absurd H (by simp)
            ·rw [if_neg c95] at H
             exact absurd H (by simp)
           ·rw [if_neg c94] at H
            exact absurd H (by simp)
          ·rw [if_neg c93] at H
           have c93b0 : decide (x170_3 < (t256.length : Int)) = false := decide_eq_false c93
           clear c93
           replace H := Option.bind_eq_some_iff.mp H
           obtain ⟨t283, A1140, H⟩ := H
           replace H : (if (t283.length : Int) = (x31_3.length : Int) then (SJ.l2 k3 x31_3 t283 (x31_3.length : Int) 0 t251 t252) else (some false)) = some r := H
           have A114 := Aside0.mk A1140
           clear A1140
           by_cases c115 : (t283.length : Int) = (x31_3.length : Int)
           ·rw [if_pos c115] at H
            have c115b0 : ((t283.length : Int) == (x31_3.length : Int)) = true := beq_iff_eq.mpr c115
            have c115b1 : ((t283.length : Int) != (x31_3.length : Int)) = false := bne_eq_false_iff_eq.mpr c115
            have c115b2 : (t283.length == x31_3.length) = true := by first | simpa using c115 | (simp at c115 ⊢; omega)
            clear c115
            have H' := Aside0.mk H
            clear H
            have hnb116 := NB255_249.out
            have hnc116 := NB249_255.out
            have hnb117 := NB255_250.out
            have hnc117 := NB250_255.out
            have hcz118_0 : wr.cell? ⟨gb255, 0, none⟩ = some (.int .i64 t251) := (blk_cell BK255.out 0).trans rfl
            have hcz118_1 : wr.cell? ⟨gb255, 1, none⟩ = some (.slice Ao41 t252.length co41) := (blk_cell BK255.out 1).trans rfl
            have hfz118_0 := blk_frozen BK255.out 0
            have hfz118_1 := blk_frozen BK255.out 1
            have hsz118_1 : ∀ A_ B_ : Value, ((wr.setCell ⟨gb255, 0, none⟩ A_).setCell ⟨gb255, 1, none⟩ B_).cell? ⟨gb255, 1, none⟩ = some B_ := fun A_ B_ => World.cell?_setCell_same _ _ _ ((World.cell?_setCell_other _ _ _ _ (by simp)).trans hcz118_1)
            go_wp2_with (first | ((with_reducible refine gate_callee (f := 15) rfl ?_); refine goesL_ (some 213) rfl rfl Try.func15 (by kernel_rfl) rfl #[.agg #[.int .i64 t251, .slice Ao41 t252.length co41], .slice Ao92 t270.length co92] rfl (by (try simp only [List.map_toArray, List.map_cons, List.map_nil]); first | done | rfl | (simp only [List.length_drop, List.length_take]; rfl)) ?_; (with_reducible refine (span_Buckets.calls k3 t251 _ _ t252 _ _ t270 t283 _ ?side1 ?side2 ?side3 ?side4 A114.out).mono ?_); (case side1 => repeat (first | exact (Kd.R_reads' HO_256001.out).2.2 | (with_reducible refine Kd.C_alloc ?_ _) | (with_reducible refine Kd.C_drewN ?_ _) | (with_reducible refine Kd.C_drew ?_))); (case side2 => exact (Kd.R_reads' HO_256001.out).2.1); (case side3 => repeat (first | exact (Kd.R_reads' HO_29.out).2.2 | (with_reducible refine Kd.C_alloc ?_ _) | (with_reducible refine Kd.C_drewN ?_ _) | (with_reducible refine Kd.C_drew ?_))); (case side4 => exact (Kd.R_reads' HO_29.out).2.1); rintro e w119 ⟨v284, rfl, ho0, hb⟩; refine ⟨_, rfl, ?_⟩; have n0_ := Aside0.mk (Kd.R_below (by (with_reducible repeat (first | apply Kd.R_alloc | apply Kd.R_drewN | apply Kd.R_drew)); exact HO_29.out) hb); have n1_ := Aside0.mk (Kd.R_elder' (by (with_reducible repeat (first | apply Kd.R_alloc | apply Kd.R_drewN | apply Kd.R_drew)); exact HO_31.out) (Kd.R_base ho0) hb); have n2_ := Aside0.mk (Kd.R_below (by (with_reducible repeat (first | apply Kd.R_alloc | apply Kd.R_drewN | apply Kd.R_drew)); exact HO_168.out) hb); have n3_ := Aside0.mk (Kd.R_below (by (with_reducible repeat (first | apply Kd.R_alloc | apply Kd.R_drewN | apply Kd.R_drew)); exact HO_250001.out) hb); have n4_ := Aside0.mk (Kd.R_below (by (with_reducible repeat (first | apply Kd.R_alloc | apply Kd.R_drewN | apply Kd.R_drew)); exact HO_251001.out) hb); have n5_ := Aside0.mk (Kd.R_below (by (with_reducible repeat (first | apply Kd.R_alloc | apply Kd.R_drewN | apply Kd.R_drew)); exact HO_256001.out) hb); have n6_ := Aside0.mk (Kd.R_lower (Kd.R_new' ho0 (Kd.R_lt (by (with_reducible repeat (first | apply Kd.R_alloc | apply Kd.R_drewN | apply Kd.R_drew)); exact HO_31.out))) (below_size (by repeat (first | (with_reducible first | exact HB.out | apply below_alloc | apply pw_below_drewN | apply below_drew1 | refine below_set ?_ GE249.out | refine below_set ?_ GE250.out | refine below_set ?_ GE255.out) | exact HB.out)))); have n7_ := Aside0.mk (blk_below (g := gb249) (o := .cells #[.int .i64 t241, .slice Ao33 t242.length co33] 31 (0, 0)) (by (with_reducible repeat (first | refine blk_drewN ?_ _ | refine blk_drew ?_ | refine blk_alloc ?_ _)); exact BK249.out) hb); have n8_ := Aside0.mk (blk_below (g := gb250) (o := .cells #[.int .i64 t245, .slice Ao35 t246.length co35] 31 (0, 0)) (by (with_reducible repeat (first | refine blk_drewN ?_ _ | refine blk_drew ?_ | refine blk_alloc ?_ _)); exact BK250.out) hb); have n9_ := Aside0.mk (blk_below (g := gb255) (o := .cells #[.int .i64 t251, .slice Ao41 t252.length co41] 31 (0, 0)) (by (with_reducible repeat (first | refine blk_drewN ?_ _ | refine blk_drew ?_ | refine blk_alloc ?_ _)); exact BK255.out) hb); have n10_ := Aside0.mk (below_step (by repeat (first | (with_reducible first | exact HB.out | apply below_alloc | apply pw_below_drewN | apply below_drew1 | refine below_set ?_ GE249.out | refine below_set ?_ GE250.out | refine below_set ?_ GE255.out) | exact HB.out)) hb); clear HO_29; clear HO_31; clear HO_168; clear HO_250001; clear HO_251001; clear HO_256001; clear BK249; clear BK250; clear BK255; clear HB; have HO_29 := n0_; have HO_31 := n1_; have HO_168 := n2_; have HO_250001 := n3_; have HO_251001 := n4_; have HO_256001 := n5_; have HO285 := n6_; have BK249 := n7_; have BK250 := n8_; have BK255 := n9_; have HB := n10_; clear n0_ n1_ n2_ n3_ n4_ n5_ n6_ n7_ n8_ n9_ n10_; (try clear hb); (try clear hb2); (try clear hk); (try clear hi); (try clear ho0); obtain ⟨Ao120, co120, eo120⟩ := Kd.R_slice HO285.out; subst eo120; obtain ⟨Ao121, co121, eo121⟩ := Kd.R_slice HO_31.out; subst eo121))
            go_loopg [221] k3 (fun kq v221 w' => ∃ (x221_4 : Int), v221 = .int .i64 x221_4 ∧ Aside0 (SJ.l2 kq x31_3 t283 (x31_3.length : Int) x221_4 t251 t252 = some r) ∧ Aside0 (kq ≤ k3) ∧ Aside0 (Kd.R k36 36 w' w.heap.size (fun k_ => some k_ ≠ ((.slice Ao120 t283.length co120) : Value).ownBlock) (.slice Ao121 x31_3.length co121) x31_3) ∧ Aside0 (Kd.R k36 36 w' w.heap.size (fun k_ => some k_ ≠ ((.slice Ao121 x31_3.length co121) : Value).ownBlock) (.slice Ao120 t283.length co120) t283) ∧ Aside0 (Kd.R k38 38 w' w.heap.size (fun k_ => some k_ ≠ ((.slice Ao35 t246.length co35) : Value).ownBlock ∧ some k_ ≠ ((.slice Ao41 t252.length co41) : Value).ownBlock) (.slice Ao33 t242.length co33) t242) ∧ Aside0 (Kd.R k38 38 w' w.heap.size (fun k_ => some k_ ≠ ((.slice Ao33 t242.length co33) : Value).ownBlock ∧ some k_ ≠ ((.slice Ao41 t252.length co41) : Value).ownBlock) (.slice Ao35 t246.length co35) t246) ∧ Aside0 (Kd.R k38 38 w' w.heap.size (fun k_ => some k_ ≠ ((.slice Ao33 t242.length co33) : Value).ownBlock ∧ some k_ ≠ ((.slice Ao35 t246.length co35) : Value).ownBlock) (.slice Ao41 t252.length co41) t252) ∧ Aside0 (w'.heap[gb249]? = some (.cells #[.int .i64 t241, (.slice Ao33 t242.length co33)] 31 (0, 0))) ∧ Aside0 (w'.heap[gb250]? = some (.cells #[.int .i64 t245, (.slice Ao35 t246.length co35)] 31 (0, 0))) ∧ Aside0 (w'.heap[gb255]? = some (.cells #[.int .i64 t251, (.slice Ao41 t252.length co41)] 31 (0, 0))) ∧ Aside0 (Below w.heap.size w w'))
            case atStart => exact ⟨(0), (by first | rfl | (simp; done) | (simp [*]; done) | (simp [*]; omega)), H', ⟨Nat.le_refl _⟩, ⟨by (with_reducible repeat (first | apply Kd.R_alloc | apply Kd.R_drewN | apply Kd.R_drew)); exact Kd.R_mono HO_31.out (fun _ hk => hk.2)⟩, ⟨by (with_reducible repeat (first | apply Kd.R_alloc | apply Kd.R_drewN | apply Kd.R_drew)); exact Kd.R_mono HO285.out (fun _ hk => hk.2)⟩, ⟨by (with_reducible repeat (first | apply Kd.R_alloc | apply Kd.R_drewN | apply Kd.R_drew)); exact HO_250001.out⟩, ⟨by (with_reducible repeat (first | apply Kd.R_alloc | apply Kd.R_drewN | apply Kd.R_drew)); exact HO_251001.out⟩, ⟨by (with_reducible repeat (first | apply Kd.R_alloc | apply Kd.R_drewN | apply Kd.R_drew)); exact HO_256001.out⟩, ⟨by (with_reducible repeat (first | refine blk_drewN ?_ _ | refine blk_drew ?_ | refine blk_alloc ?_ _)); exact BK249.out⟩, ⟨by (with_reducible repeat (first | refine blk_drewN ?_ _ | refine blk_drew ?_ | refine blk_alloc ?_ _)); exact BK250.out⟩, ⟨by (with_reducible repeat (first | refine blk_drewN ?_ _ | refine blk_drew ?_ | refine blk_alloc ?_ _)); exact BK255.out⟩, ⟨by repeat (first | (with_reducible first | exact HB.out | apply below_alloc | apply pw_below_drewN | apply below_drew1 | refine below_set ?_ GE249.out | refine below_set ?_ GE250.out | refine below_set ?_ GE255.out) | exact HB.out)⟩⟩
            case round =>
             clear H'
             try clear c1
             try clear p2
             try clear q2
             try clear hx2
             try clear c4
             try clear p6
             try clear c7
             try clear c8
             try clear c9
             try clear c10
             try clear c11
             try clear c12
             try clear c14
             try clear c15
             try clear p26
             try clear q26
             try clear hx26
             try clear p27
             try clear q27
             try clear hx27
             try clear p28
             try clear q28
             try clear hx28
             try clear c47
             try clear c47b0
             try clear c47b1
             try clear p64
             try clear c74
             try clear c76
             try clear c76b0
             try clear c77
             try clear c77b0
             try clear c78
             try clear c78b0
             try clear c80
             try clear c80b0
             try clear c80b1
             try clear c81
             try clear c81b0
             try clear c83
             try clear c83b0
             try clear c84
             try clear c84b0
             try clear c85
             try clear c85b0
             try clear c87
             try clear c87b0
             try clear c87b1
             try clear c87b2
             try clear c88
             try clear c89
             try clear c93
             try clear c93b0
             try clear c94
             try clear c94b0
             try clear c95
             try clear c95b0
             try clear c97
             try clear c97b0
             try clear c98
             try clear c98b0
             try clear c99
             try clear c100
             try clear c100b0
             try clear c101
             try clear c101b0
             try clear c102
             try clear c102b0
             try clear c103
             try clear c104
             try clear c104b0
             try clear c105
             try clear c105b0
             try clear c106
             try clear c106b0
             try clear c106b1
             try clear c108
             try clear c108b0
             try clear c109
             try clear c109b0
             try clear c110
             try clear c110b0
             try clear c110b1
             try clear c111
             try clear c111b0
             try clear c112
             try clear c112b0
             try clear c113
             try clear c113b0
             try clear c113b1
             try clear c115
             try clear c115b0
             try clear c115b1
             try clear c115b2
             try clear c116
             try clear c117
             try clear hcz118_0
             try clear hcz118_1
             try clear hcz90_0
             try clear hcz90_1
             try clear hfz118_0
             try clear hfz118_1
             try clear hfz90_0
             try clear hfz90_1
             try clear hx267_0
             try clear hx269_0
             try clear hx273_0
             try clear hx274_0
             try clear hx274_1
             try clear hx275_0
             try clear hx275_1
             try clear hx276_0
             try clear hx276_1
             try clear hx280_0
             try clear hx281_0
             try clear hx282_0
             try clear p2
             try clear p26
             try clear p267
             try clear p269
             try clear p27
             try clear p273
             try clear p274
             try clear p275
             try clear p276
             try clear p280
             try clear p281
             try clear p282
             try clear p6
             try clear p64
             try clear q2
             try clear q26
             try clear q267
             try clear q269
             try clear q27
             try clear q273
             try clear q274
             try clear q275
             try clear q276
             try clear q280
             try clear q281
             try clear q282
             obtain ⟨x221_4, rfl, HA, HK4, HO_31, HO_35, HO_250001, HO_251001, HO_256001, BK249, BK250, BK255, HB⟩ := hrel
             cases gk with
             | zero => exact absurd HA.out (by simp [SJ.l2])
             | succ k4 =>
              have H := HA.out
              clear HA
              simp only [SJ.l2] at H
              by_cases c122 : x221_4 < (x31_3.length : Int)
              ·rw [if_pos c122] at H
               have c122b0 : decide (x221_4 < (x31_3.length : Int)) = true := decide_eq_true c122
               clear c122
               by_cases c123 : 0 ≤ x221_4
               ·rw [if_pos c123] at H
                have c123b0 : decide (0 ≤ x221_4) = true := decide_eq_true c123
                clear c123
                by_cases c124 : x221_4 < (t283.length : Int)
                ·rw [if_pos c124] at H
                 have c124b0 : decide (x221_4 < (t283.length : Int)) = true := decide_eq_true c124
                 clear c124
                 by_cases c125 : x221_4 < (x31_3.length : Int)
                 ·rw [if_pos c125] at H
                  have c125b0 : decide (x221_4 < (x31_3.length : Int)) = true := decide_eq_true c125
                  clear c125
                  by_cases c126 : (!(((rd_T36 t283 x221_4).f0) == ((rd_T36 x31_3 x221_4).f0)) || (!(((rd_T36 t283 x221_4).f1) == ((rd_T36 x31_3 x221_4).f1)))) = true
                  ·rw [if_pos c126] at H
                   have c126b0 : (!(((rd_T36 t283 x221_4).f0) == ((rd_T36 x31_3 x221_4).f0)) || (!(((rd_T36 t283 x221_4).f1) == ((rd_T36 x31_3 x221_4).f1)))) = true := c126
                   clear c126
                   exact absurd ((Option.some.inj H).trans hr_.out) (by decide)
                  ·rw [if_neg c126] at H
                   have c126b0 : (!(((rd_T36 t283 x221_4).f0) == ((rd_T36 x31_3 x221_4).f0)) || (!(((rd_T36 t283 x221_4).f1) == ((rd_T36 x31_3 x221_4).f1)))) = false := by simpa using c126
                   clear c126
                   have H' := Aside0.mk H
                   clear H
                   try go_wp2
                   have n0_ := Aside0.mk (Kd.R_drew HO_31.out)
                   have n1_ := Aside0.mk (Kd.R_drew HO_35.out)
                   have n2_ := Aside0.mk (Kd.R_drew HO_250001.out)
                   have n3_ := Aside0.mk (Kd.R_drew HO_251001.out)
                   have n4_ := Aside0.mk (Kd.R_drew HO_256001.out)
                   have n5_ := Aside0.mk (blk_drew BK249.out)
                   have n6_ := Aside0.mk (blk_drew BK250.out)
                   have n7_ := Aside0.mk (blk_drew BK255.out)
                   have n8_ := Aside0.mk (below_drew1 HB.out)
                   clear HO_31
                   clear HO_35
                   clear HO_250001
                   clear HO_251001
                   clear HO_256001
                   clear BK249
                   clear BK250
                   clear BK255
                   clear HB
                   have HO_31 := n0_
                   have HO_35 := n1_
                   have HO_250001 := n2_
                   have HO_251001 := n3_
                   have HO_256001 := n4_
                   have BK249 := n5_
                   have BK250 := n6_
                   have BK255 := n7_
                   have HB := n8_
                   clear n0_ n1_ n2_ n3_ n4_ n5_ n6_ n7_ n8_
                   have p286 : 0 ≤ (x221_4 : Int) := of_decide_eq_true (by first | (with_reducible assumption) | assumption)
                   have q286 : x221_4 < (t283.length : Int) := of_decide_eq_true (by first | (with_reducible assumption) | assumption)
                   obtain ⟨ad286, e286, hx286_0, hx286_1⟩ := at_T36 (Kd.R_reads' HO_35.out).2.2 x221_4 p286 q286
                   cases e286
                   replace p286 := eq_true p286
                   replace q286 := eq_true q286
                   have p287 : 0 ≤ (x221_4 : Int) := of_decide_eq_true (by first | (with_reducible assumption) | assumption)
                   have q287 : x221_4 < (x31_3.length : Int) := of_decide_eq_true (by first | (with_reducible assumption) | assumption)
                   obtain ⟨ad287, e287, hx287_0, hx287_1⟩ := at_T36 (Kd.R_reads' HO_31.out).2.2 x221_4 p287 q287
                   cases e287
                   replace p287 := eq_true p287
                   replace q287 := eq_true q287
                   refine start_ (n := 9) (S := fun w' => w'.cell? (ad286.add ((x221_4).toNat * 2)) = some (.int .i64 ((rd_T36 t283 x221_4).f0)) ∧ w'.cell? ⟨(ad286.add ((x221_4).toNat * 2)).block, (ad286.add ((x221_4).toNat * 2)).off + 1, none⟩ = some (.int .u64 ((rd_T36 t283 x221_4).f1)) ∧ w'.cell? (ad287.add ((x221_4).toNat * 2)) = some (.int .i64 ((rd_T36 x31_3 x221_4).f0)) ∧ w'.cell? ⟨(ad287.add ((x221_4).toNat * 2)).block, (ad287.add ((x221_4).toNat * 2)).off + 1, none⟩ = some (.int .u64 ((rd_T36 x31_3 x221_4).f1))) (ds := []) #[false, false, false, false, false, false, false, false, false] (by kernel_rfl) rfl rfl ⟨hx286_0, hx286_1, hx287_0, hx287_1⟩ (fun hHeld => ?_); refine with_tabW SJ.tab55 SJ.bits55 (fun HT_ HW_ => ?_)
                   generalize wr.drew = w127 at HO_31 HO_35 HO_250001 HO_251001 HO_256001 BK249 BK250 BK255 HB hx286_0 hx286_1 hx287_0 hx287_1 hHeld ⊢
                   refine pure_ (i := 0) (N := some 224) (v := ?_) (a' := ?_) #[true, false, false, false, false, false, false, false, false] rfl rfl (any_of HT_.out (by kernel_rfl)) (fun _ _ _ h => h) (Or.inl ⟨by rfl, ?_⟩) ?_ ?_
                   rotate_left
                   ·intro w'
                    go_simp
                    with_reducible rfl
                   rotate_left
                   ·simp only [Act.put, List.setIfInBounds_toArray, List.set_cons_zero, List.set_cons_succ, i64_w, i32_w]
                    rfl
                   refine pure_ (i := 1) (N := some 225) (v := ?_) (a' := ?_) #[true, true, false, false, false, false, false, false, false] rfl rfl (any_of HT_.out (by kernel_rfl)) (fun _ _ _ h => h) (Or.inl ⟨by rfl, ?_⟩) ?_ ?_
                   rotate_left
                   ·intro w'
                    go_simp
                    with_reducible rfl
                   rotate_left
                   ·simp only [Act.put, List.setIfInBounds_toArray, List.set_cons_zero, List.set_cons_succ, i64_w, i32_w]
                    rfl
                   refine pure_ (i := 2) (N := some 226) (v := ?_) (a' := ?_) #[true, true, true, false, false, false, false, false, false] rfl rfl (any_of HT_.out (by kernel_rfl)) (fun _ _ _ h => h) (Or.inl ⟨by rfl, ?_⟩) ?_ ?_
                   rotate_left
                   ·intro w'
                    go_simp
                    with_reducible rfl
                   rotate_left
                   ·simp only [Act.put, List.setIfInBounds_toArray, List.set_cons_zero, List.set_cons_succ, i64_w, i32_w]
                    rfl
                   refine pure_ (i := 4) (N := some 228) (v := ?_) (a' := ?_) #[true, true, true, false, true, false, false, false, false] rfl rfl (any_of HT_.out (by kernel_rfl)) (fun _ _ _ h => h) (Or.inl ⟨by rfl, ?_⟩) ?_ ?_
                   rotate_left
                   ·intro w'
                    go_simp
                    with_reducible rfl
                   rotate_left
                   ·simp only [Act.put, List.setIfInBounds_toArray, List.set_cons_zero, List.set_cons_succ, i64_w, i32_w]
                    rfl
                   refine pure_ (i := 5) (N := some 229) (v := ?_) (a' := ?_) #[true, true, true, false, true, true, false, false, false] rfl rfl (any_of HT_.out (by kernel_rfl)) (fun _ _ _ h => h) (Or.inl ⟨by rfl, ?_⟩) ?_ ?_
                   rotate_left
                   ·intro w'
                    go_simp
                    with_reducible rfl
                   rotate_left
                   ·simp only [Act.put, List.setIfInBounds_toArray, List.set_cons_zero, List.set_cons_succ, i64_w, i32_w]
                    rfl
                   refine pure_ (i := 6) (N := some 230) (v := ?_) (a' := ?_) #[true, true, true, false, true, true, true, false, false] rfl rfl (any_of HT_.out (by kernel_rfl)) (fun _ _ _ h => h) (Or.inl ⟨by rfl, ?_⟩) ?_ ?_
                   rotate_left
                   ·intro w'
                    go_simp
                    with_reducible rfl
                   rotate_left
                   ·simp only [Act.put, List.setIfInBounds_toArray, List.set_cons_zero, List.set_cons_succ, i64_w, i32_w]
                    rfl
                   refine take_ (i := 3) (N := some 227) (v := ?_) (a' := ?_) #[true, true, true, true, true, true, true, false, false] rfl rfl (take_ofW HT_.out HW_.out (by kernel_rfl)) (fun _ _ _ h => h) (Or.inl ⟨by rfl, ?_⟩) hHeld ?_ ?_
                   rotate_left
                   ·rintro w' ⟨s0, s1, s2, s3⟩
                    go_simp
                    with_reducible rfl
                   rotate_left
                   ·simp only [Act.put, List.setIfInBounds_toArray, List.set_cons_zero, List.set_cons_succ, i64_w, i32_w]
                    rfl
                   refine take_ (i := 7) (N := some 231) (v := ?_) (a' := ?_) #[true, true, true, true, true, true, true, true, false] rfl rfl (take_ofW HT_.out HW_.out (by kernel_rfl)) (fun _ _ _ h => h) (Or.inl ⟨by rfl, ?_⟩) hHeld ?_ ?_
                   rotate_left
                   ·rintro w' ⟨s0, s1, s2, s3⟩
                    go_simp
                    with_reducible rfl
                   rotate_left
                   ·simp only [Act.put, List.setIfInBounds_toArray, List.set_cons_zero, List.set_cons_succ, i64_w, i32_w]
                    rfl
                   refine pure_ (i := 8) (N := some 232) (v := ?_) (a' := ?_) #[true, true, true, true, true, true, true, true, true] rfl rfl (any_of HT_.out (by kernel_rfl)) (fun _ _ _ h => h) (Or.inl ⟨by rfl, ?_⟩) ?_ ?_
                   rotate_left
                   ·intro w'
                    go_simp
                    with_reducible rfl
                   rotate_left
                   ·simp only [Act.put, List.setIfInBounds_toArray, List.set_cons_zero, List.set_cons_succ, i64_w, i32_w]
                    rfl
                   refine done_ (done_of HT_.out (by kernel_rfl)) ?_
                   try go_wp2
                   go_roundg k4
                   case measure => have := HJ25.out; have := HK2.out; have := HK3.out; have := HK4.out; omega
                   case rel => exact ⟨(wrap64 (x221_4 + 1)), (by first | rfl | (simp; done) | (simp [*]; done) | (simp [*]; omega)), H', ⟨by have := HJ25.out; have := HK2.out; have := HK3.out; have := HK4.out; omega⟩, ⟨by (with_reducible repeat (first | apply Kd.R_alloc | apply Kd.R_drewN | apply Kd.R_drew)); exact HO_31.out⟩, ⟨by (with_reducible repeat (first | apply Kd.R_alloc | apply Kd.R_drewN | apply Kd.R_drew)); exact HO_35.out⟩, ⟨by (with_reducible repeat (first | apply Kd.R_alloc | apply Kd.R_drewN | apply Kd.R_drew)); exact HO_250001.out⟩, ⟨by (with_reducible repeat (first | apply Kd.R_alloc | apply Kd.R_drewN | apply Kd.R_drew)); exact HO_251001.out⟩, ⟨by (with_reducible repeat (first | apply Kd.R_alloc | apply Kd.R_drewN | apply Kd.R_drew)); exact HO_256001.out⟩, ⟨by (with_reducible repeat (first | refine blk_drewN ?_ _ | refine blk_drew ?_ | refine blk_alloc ?_ _)); exact BK249.out⟩, ⟨by (with_reducible repeat (first | refine blk_drewN ?_ _ | refine blk_drew ?_ | refine blk_alloc ?_ _)); exact BK250.out⟩, ⟨by (with_reducible repeat (first | refine blk_drewN ?_ _ | refine blk_drew ?_ | refine blk_alloc ?_ _)); exact BK255.out⟩, ⟨by repeat (first | (with_reducible first | exact HB.out | apply below_alloc | apply pw_below_drewN | apply below_drew1 | refine below_set ?_ GE249.out | refine below_set ?_ GE250.out | refine below_set ?_ GE255.out) | exact HB.out)⟩⟩
                 ·rw [if_neg c125] at H
                  exact absurd H (by simp)
                ·rw [if_neg c124] at H
                 exact absurd H (by simp)
               ·rw [if_neg c123] at H
                exact absurd H (by simp)
              ·rw [if_neg c122] at H
               have c122b0 : decide (x221_4 < (x31_3.length : Int)) = false := decide_eq_false c122
               clear c122
               replace H := Option.bind_eq_some_iff.mp H
               obtain ⟨t288, A1280, H⟩ := H
               replace H : (if t288 = true then ((span_Buckets.f k4 t251 t252 ([] : List Int)).bind fun t289 => (some ((t289.length : Int) == 0))) else (some false)) = some r := H
               have A128 := Aside0.mk A1280
               clear A1280
               by_cases c129 : t288 = true
               ·subst c129
                have H1 : ((span_Buckets.f k4 t251 t252 ([] : List Int)).bind fun t289 => (some ((t289.length : Int) == 0))) = some r := by rw [if_pos rfl] at H; exact H
                clear H
                have H := H1
                clear H1
                replace H := Option.bind_eq_some_iff.mp H
                obtain ⟨t289, A1300, H⟩ := H
                replace H : (some ((t289.length : Int) == 0)) = some r := H
                have A130 := Aside0.mk A1300
                clear A1300
                obtain rfl := Option.some.inj H
                go_wp2_with (first | ((with_reducible refine gate_callee (f := 7) rfl ?_); refine goesL_ (some 234) rfl rfl Try.func7 (by kernel_rfl) rfl #[] rfl (by (try simp only [List.map_toArray, List.map_cons, List.map_nil]); first | done | rfl | (simp only [List.length_drop, List.length_take]; rfl)) ?_; (with_reducible refine (pluviallaw06_awake.calls k4  true _ A128.out).mono ?_); rintro e w131 ⟨rfl, hb⟩; refine ⟨_, rfl, ?_⟩; have n0_ := Aside0.mk (Kd.R_below (by (with_reducible repeat (first | apply Kd.R_alloc | apply Kd.R_drewN | apply Kd.R_drew)); exact HO_31.out) hb); have n1_ := Aside0.mk (Kd.R_below (by (with_reducible repeat (first | apply Kd.R_alloc | apply Kd.R_drewN | apply Kd.R_drew)); exact HO_35.out) hb); have n2_ := Aside0.mk (Kd.R_below (by (with_reducible repeat (first | apply Kd.R_alloc | apply Kd.R_drewN | apply Kd.R_drew)); exact HO_250001.out) hb); have n3_ := Aside0.mk (Kd.R_below (by (with_reducible repeat (first | apply Kd.R_alloc | apply Kd.R_drewN | apply Kd.R_drew)); exact HO_251001.out) hb); have n4_ := Aside0.mk (Kd.R_below (by (with_reducible repeat (first | apply Kd.R_alloc | apply Kd.R_drewN | apply Kd.R_drew)); exact HO_256001.out) hb); have n5_ := Aside0.mk (blk_below (g := gb249) (o := .cells #[.int .i64 t241, .slice Ao33 t242.length co33] 31 (0, 0)) (by (with_reducible repeat (first | refine blk_drewN ?_ _ | refine blk_drew ?_ | refine blk_alloc ?_ _)); exact BK249.out) hb); have n6_ := Aside0.mk (blk_below (g := gb250) (o := .cells #[.int .i64 t245, .slice Ao35 t246.length co35] 31 (0, 0)) (by (with_reducible repeat (first | refine blk_drewN ?_ _ | refine blk_drew ?_ | refine blk_alloc ?_ _)); exact BK250.out) hb); have n7_ := Aside0.mk (blk_below (g := gb255) (o := .cells #[.int .i64 t251, .slice Ao41 t252.length co41] 31 (0, 0)) (by (with_reducible repeat (first | refine blk_drewN ?_ _ | refine blk_drew ?_ | refine blk_alloc ?_ _)); exact BK255.out) hb); have n8_ := Aside0.mk (below_step (by repeat (first | (with_reducible first | exact HB.out | apply below_alloc | apply pw_below_drewN | apply below_drew1 | refine below_set ?_ GE249.out | refine below_set ?_ GE250.out | refine below_set ?_ GE255.out) | exact HB.out)) hb); clear HO_31; clear HO_35; clear HO_250001; clear HO_251001; clear HO_256001; clear BK249; clear BK250; clear BK255; clear HB; have HO_31 := n0_; have HO_35 := n1_; have HO_250001 := n2_; have HO_251001 := n3_; have HO_256001 := n4_; have BK249 := n5_; have BK250 := n6_; have BK255 := n7_; have HB := n8_; clear n0_ n1_ n2_ n3_ n4_ n5_ n6_ n7_ n8_; (try clear hb); (try clear hb2); (try clear hk); (try clear hi); have hnb132 := NB255_249.out; have hnc132 := NB249_255.out; have hnb133 := NB255_250.out; have hnc133 := NB250_255.out; have hcz134_0 : w131.cell? ⟨gb255, 0, none⟩ = some (.int .i64 t251) := (blk_cell BK255.out 0).trans rfl; have hcz134_1 : w131.cell? ⟨gb255, 1, none⟩ = some (.slice Ao41 t252.length co41) := (blk_cell BK255.out 1).trans rfl; have hfz134_0 := blk_frozen BK255.out 0; have hfz134_1 := blk_frozen BK255.out 1; have hsz134_1 : ∀ A_ B_ : Value, ((w131.setCell ⟨gb255, 0, none⟩ A_).setCell ⟨gb255, 1, none⟩ B_).cell? ⟨gb255, 1, none⟩ = some B_ := fun A_ B_ => World.cell?_setCell_same _ _ _ ((World.cell?_setCell_other _ _ _ _ (by simp)).trans hcz134_1)) | (go_at_call 15; (refine (span_Buckets.calls k4 t251 _ _ t252 _ _ ([] : List Int) t289 _ ?side1 ?side2 ?side3 ?side4 A130.out).mono ?_); (case side1 => repeat (first | exact (Kd.R_reads' HO_256001.out).2.2 | (with_reducible refine Kd.C_alloc ?_ _) | (with_reducible refine Kd.C_drewN ?_ _) | (with_reducible refine Kd.C_drew ?_))); (case side2 => exact (Kd.R_reads' HO_256001.out).2.1); (case side3 => exact Kd.C_nil _ _); (case side4 => exact Nat.le_refl _); rintro e w135 ⟨v290, rfl, ho0, hb⟩; have n0_ := Aside0.mk (Kd.R_elder' (by (with_reducible repeat (first | apply Kd.R_alloc | apply Kd.R_drewN | apply Kd.R_drew)); exact HO_31.out) (Kd.R_base ho0) hb); have n1_ := Aside0.mk (Kd.R_elder' (by (with_reducible repeat (first | apply Kd.R_alloc | apply Kd.R_drewN | apply Kd.R_drew)); exact HO_35.out) (Kd.R_base ho0) hb); have n2_ := Aside0.mk (Kd.R_below (by (with_reducible repeat (first | apply Kd.R_alloc | apply Kd.R_drewN | apply Kd.R_drew)); exact HO_250001.out) hb); have n3_ := Aside0.mk (Kd.R_below (by (with_reducible repeat (first | apply Kd.R_alloc | apply Kd.R_drewN | apply Kd.R_drew)); exact HO_251001.out) hb); have n4_ := Aside0.mk (Kd.R_below (by (with_reducible repeat (first | apply Kd.R_alloc | apply Kd.R_drewN | apply Kd.R_drew)); exact HO_256001.out) hb); have n5_ := Aside0.mk (Kd.R_lower (Kd.R_new' (Kd.R_new' ho0 (Kd.R_lt (by (with_reducible repeat (first | apply Kd.R_alloc | apply Kd.R_drewN | apply Kd.R_drew)); exact HO_31.out))) (Kd.R_lt (by (with_reducible repeat (first | apply Kd.R_alloc | apply Kd.R_drewN | apply Kd.R_drew)); exact HO_35.out))) (below_size (by repeat (first | (with_reducible first | exact HB.out | apply below_alloc | apply pw_below_drewN | apply below_drew1 | refine below_set ?_ GE249.out | refine below_set ?_ GE250.out | refine below_set ?_ GE255.out) | exact HB.out)))); have n6_ := Aside0.mk (blk_below (g := gb249) (o := .cells #[.int .i64 t241, .slice Ao33 t242.length co33] 31 (0, 0)) (by (with_reducible repeat (first | refine blk_drewN ?_ _ | refine blk_drew ?_ | refine blk_alloc ?_ _)); exact BK249.out) hb); have n7_ := Aside0.mk (blk_below (g := gb250) (o := .cells #[.int .i64 t245, .slice Ao35 t246.length co35] 31 (0, 0)) (by (with_reducible repeat (first | refine blk_drewN ?_ _ | refine blk_drew ?_ | refine blk_alloc ?_ _)); exact BK250.out) hb); have n8_ := Aside0.mk (blk_below (g := gb255) (o := .cells #[.int .i64 t251, .slice Ao41 t252.length co41] 31 (0, 0)) (by (with_reducible repeat (first | refine blk_drewN ?_ _ | refine blk_drew ?_ | refine blk_alloc ?_ _)); exact BK255.out) hb); have n9_ := Aside0.mk (below_step (by repeat (first | (with_reducible first | exact HB.out | apply below_alloc | apply pw_below_drewN | apply below_drew1 | refine below_set ?_ GE249.out | refine below_set ?_ GE250.out | refine below_set ?_ GE255.out) | exact HB.out)) hb); clear HO_31; clear HO_35; clear HO_250001; clear HO_251001; clear HO_256001; clear BK249; clear BK250; clear BK255; clear HB; have HO_31 := n0_; have HO_35 := n1_; have HO_250001 := n2_; have HO_251001 := n3_; have HO_256001 := n4_; have HO291 := n5_; have BK249 := n6_; have BK250 := n7_; have BK255 := n8_; have HB := n9_; clear n0_ n1_ n2_ n3_ n4_ n5_ n6_ n7_ n8_ n9_; (try clear hb); (try clear hb2); (try clear hk); (try clear hi); (try clear ho0); obtain ⟨Ao136, co136, eo136⟩ := Kd.R_slice HO291.out; subst eo136))
                go_ret
                exact ⟨by first | rfl | (simp [errW_none, errW_some] <;> rfl) | (simp [*, errW_none, errW_some] <;> rfl), below_then HB00.out (by repeat (first | (with_reducible first | exact HB.out | apply below_alloc | apply pw_below_drewN | apply below_drew1 | refine below_set ?_ GE249.out | refine below_set ?_ GE250.out | refine below_set ?_ GE255.out) | exact HB.out))⟩
               ·replace c129 := Bool.eq_false_iff.mpr c129
                subst c129
                have H1 : (some false) = some r := by rw [if_neg (show ¬ (false = true) by decide)] at H; exact H
                clear H
                have H := H1
                clear H1
                exact absurd ((Option.some.inj H).trans hr_.out) (by decide)
           ·rw [if_neg c115] at H
            have c115b0 : ((t283.length : Int) == (x31_3.length : Int)) = false := beq_eq_false_iff_ne.mpr c115
            have c115b1 : ((t283.length : Int) != (x31_3.length : Int)) = true := bne_iff_ne.mpr c115
            have c115b2 : (t283.length == x31_3.length) = false := by first | simpa using c115 | (simp at c115 ⊢; omega)
            exact absurd ((Option.some.inj H).trans hr_.out) (by decide)
       ·rw [if_neg c87] at H
        have c87b0 : ((t270.length : Int) == (t256.length : Int)) = false := beq_eq_false_iff_ne.mpr c87
        have c87b1 : ((t270.length : Int) != (t256.length : Int)) = true := bne_iff_ne.mpr c87
        have c87b2 : (t270.length == t256.length) = false := by first | simpa using c87 | (simp at c87 ⊢; omega)
        exact absurd ((Option.some.inj H).trans hr_.out) (by decide)
end Go.Proofs.Ytpdhcgicnhgfoaa.QSpanJoins
