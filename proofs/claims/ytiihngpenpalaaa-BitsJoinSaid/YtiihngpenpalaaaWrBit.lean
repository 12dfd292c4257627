/- The contract of (*bits.Writer).Bit: it lays one bit behind those that were laid; its condition: fewer than 2^40 bits so far. -/
import Derived.Test.YtiihngpenpalaaaBits
import Derived.Test.YtiihngpenpalaaaPBitsJoinx1
import Derived.StillTailTactics
namespace Go.Proofs.Ytiihngpenpalaaa.Wr
open Go.RowKit Go.Proofs.Ytiihngpenpalaaa Go.Proofs.YtiihngpenpalaaaW.PrintWords Go.Proofs.YtiihngpenpalaaaW.PrintLast Go.Proofs.YtiihngpenpalaaaW.PrintMore Bt
theorem info5 : (Try.prog.info? 5).map (fun i => (i.zero, i.size, i.bytes)) = some (some (.int .u8 0), 1, 1) := by kernel_rfl
/-- a writer's block: its row, how many bits are free -/
def Blk (W : World) (g : Nat) (v : Value) (f : Int) : Prop := W.heap[g]? = some (.cells #[v, .int .u64 f] 27 (0, 0))
def Own (w0 W : World) (v : Value) (xs : List Int) : Prop := (Kd.int .u8).R 5 W w0.heap.size (fun _ => True) v xs
/-- v' is v's row, grown in place, or a new one -/
def From (w : World) (v v' : Value) : Prop := ∀ k, v'.ownBlock = some k → v.ownBlock = some k ∨ w.heap.size ≤ k
/-- a writer of the bits s -/
def Is (w0 W : World) (g : Nat) (v : Value) (s : List Bool) : Prop := ∃ xs f, Blk W g v f ∧ w0.heap.size ≤ g ∧ Own w0 W v xs ∧ Pk xs f s
def Wrote (w0 w w' : World) (g : Nat) (v : Value) (s : List Bool) : Prop := ∃ v', Is w0 w' g v' s ∧ Below w0.heap.size w0 w' ∧ KeepBut w w' g v.ownBlock ∧ From w v v'
/-- between: a free bit is there -/
def Mid (w0 w wc : World) (g : Nat) (v : Value) (s : List Bool) : Prop := ∃ v' xs f, Blk wc g v' (f + 1) ∧ Own w0 wc v' xs ∧ Pk8 xs f s ∧ Below w0.heap.size w0 wc ∧ KeepBut w wc g v.ownBlock ∧ From w v v'
theorem Blk.set0 {W : World} {g : Nat} {v : Value} {f : Int} (h : Blk W g v f) (u : Value) : Blk (W.setCell ⟨g, 0, none⟩ u) g u f := by
  unfold Blk at h ⊢; simpa using blk_set h 0 u
theorem Blk.set1 {W : World} {g : Nat} {v : Value} {f : Int} (h : Blk W g v f) (x : Int) : Blk (W.setCell ⟨g, 1, none⟩ (.int .u64 x)) g v x := by
  unfold Blk at h ⊢; simpa using blk_set h 1 (.int .u64 x)
theorem Blk.c0 {W : World} {g : Nat} {v : Value} {f : Int} (h : Blk W g v f) : W.cell? ⟨g, 0, none⟩ = some v := (blk_cell h 0).trans rfl
theorem Blk.c1 {W : World} {g : Nat} {v : Value} {f : Int} (h : Blk W g v f) : W.cell? ⟨g, 1, none⟩ = some (.int .u64 f) := (blk_cell h 1).trans rfl
theorem Own.set {w0 W : World} {g : Nat} {v u : Value} {xs : List Int} {f : Int} (h : Own w0 W v xs) (hb : Blk W g u f) (j : Nat) (x : Value) : Own w0 (W.setCell ⟨g, j, none⟩ x) v xs := Kd.R_set h hb (by decide) j x
theorem pow_fin (n : Nat) (h : n ≤ 7) : (2 : Int) ^ n % 256 = 2 ^ n := by
  have : ∀ n : Fin 8, (2 : Int) ^ n.val % 256 = 2 ^ n.val := by decide +kernel
  exact this ⟨n, by omega⟩
theorem keep_row {w w1 : World} {g q : Nat} {row : Option Nat} (h : KeepBut w w1 g row) (hq : row = some q ∨ w.heap.size ≤ q) (j : Nat) (u : Value) : KeepBut w (w1.setCell ⟨q, j, none⟩ u) g row := by
  refine ⟨by simpa [World.setCell] using h.1, fun i hi hg hr => (Below.heap_setCell w1 ⟨q, j, none⟩ u i ?_).trans (h.2 i hi hg hr)⟩
  rintro rfl
  rcases hq with hq | hq
  · exact hr hq.symm
  · omega
set_option maxHeartbeats 4000000 in
set_option maxRecDepth 100000 in
theorem bit_calls (w0 w : World) (g : Nat) (v : Value) (s : List Bool) (b : Bool) (hI : Is w0 w g v s) (hB : Below w0.heap.size w0 w) (hl : s.length ≤ 1000000) :
    Calls Try.prog 17 #[.pointer (some ⟨g, 0, none⟩), .bool b] w fun e w' => e = .returned (.tuple #[]) ∧ Wrote w0 w w' g v (s ++ [b]) := by
  obtain ⟨xs, f, hblk, hg, hown, hpk⟩ := hI
  obtain ⟨A, c, rfl⟩ := Kd.R_slice hown
  have hlen := pk_len hpk
  have hf7 := hpk.2.2.1
  have HL := Aside0.mk (show (xs.length + 1) * 1 ≤ 140737488355328 from by omega)
  have HNE := Aside0.mk (Kd.R_ne hown hblk (by decide))
  have HG := Aside0.mk hg
  have HOWN := Aside0.mk hown
  have HPK := Aside0.mk hpk
  have HB := Aside0.mk hB
  have HBLK := Aside0.mk hblk
  have hc0 := hblk.c0
  have hc1 := hblk.c1
  have hf0 := blk_frozen hblk 0
  have hf1 := blk_frozen hblk 1
  clear hlen hf7 hg hown hpk hB hblk
  go_enter Try.func17, Try.ntmps17
  go_upto_if 8 with (fail)
  go_cut [] (fun wc => Mid w0 w wc g (.slice A xs.length c) s)
  case first =>
    by_cases hf : f = 0
    · subst hf
      go_wp2_with ((with_reducible refine gate_builtin (b := .append) (xs := #[.tmp 13, .tmp 14]) rfl ?_); at_builtin; refine Kd.R_append (Kd.int .u8) (w0 := w0) w0.heap.size rfl (.tmp 13) (.tmp 14) 24 5 (.int .u8 0) 1 rfl Try.underlying24 info5 rfl (by decide) (by omega) (.slice A xs.length c) xs (0 : Int) [.int .u8 0] (fun _ => True) (fun _ => False) rfl rfl ?aP (fun _ hk => hk.elim) ?aF ?aO ?aB ?aS ?aL ?_; (case aP => exact rfl); (case aF => exact fun _ _ => trivial); (case aO => exact HOWN.out); (case aB => exact HB.out); (case aS => exact HB.out.size); (case aL => exact HL.out); intro v1 w1 ho hb hg hat; obtain ⟨A1, c1, e1⟩ := Kd.R_slice ho; subst e1; rw [List.length_append, List.length_singleton] at ho hat; have h1 : Blk w1 g (.slice A xs.length c) 0 := blk_grown HBLK.out hg HNE.out; have h2 := h1.set0 (.slice A1 (xs.length + 1) c1); have H1 := Aside0.mk h1; have H2 := Aside0.mk h2; have hcA := h1.c0; have hfA := blk_frozen h1 0; have hcB := h2.c1; have hfB := blk_frozen h2 1; have HO := Aside0.mk ho; have HBB := Aside0.mk hb; have HGR := Aside0.mk hg; have HAT := Aside0.mk hat; clear h1 h2 ho hb hg hat)
      go_meet
      case rel =>
        refine ⟨_, xs ++ [0], 7, H2.out.set1 8, Own.set (Own.set HO.out H1.out 0 _) H2.out 1 _, pk_push HPK.out, below_set (below_set HBB.out HG.out) HG.out, ((KeepBut.of_grown HGR.out g).set_ 0 _).set_ 1 _, ?_⟩
        intro k hk
        rcases HAT.out with h | ⟨b, h, hb⟩
        · exact .inl (h ▸ hk)
        · rw [h] at hk; exact .inr (by injection hk with hk; omega)
    · have hfb : (f == 0) = false := beq_eq_false_iff_ne.2 hf
      go_wp2
      go_meet
      case rel => exact ⟨_, xs, f - 1, by have := HBLK.out; rw [show f - 1 + 1 = f from by omega]; exact this, HOWN.out, pk_free HPK.out hf, HB.out, KeepBut.refl _ _ _, fun k hk => .inl hk⟩
  case rest =>
    clear hc0 hc1 hf0 hf1 HBLK HOWN HPK HL HNE HB
    obtain ⟨v', xs', f', hblk, hown, hpk, hB, hK, hF⟩ := hcut
    obtain ⟨A', c', rfl⟩ := Kd.R_slice hown
    have hf07 : 0 ≤ f' ∧ f' ≤ 7 := ⟨hpk.2.1, hpk.2.2.1⟩
    have hc0 := hblk.c0
    have hc1 := hblk.c1
    have hf1 := blk_frozen hblk 1
    have HBLK := Aside0.mk hblk
    have HOWN := Aside0.mk hown
    have HPK := Aside0.mk hpk
    have HB := Aside0.mk hB
    have HK := Aside0.mk hK
    have HF := Aside0.mk hF
    clear hblk hown hpk hB hK hF
    cases b with
    | false =>
      go_wp2
      go_end0
      exact ⟨rfl, _, ⟨xs', f', HBLK.out.set1 f', HG.out, Own.set HOWN.out HBLK.out 1 _, pk_no HPK.out⟩, below_set HB.out HG.out, HK.out.set_ 1 _, HF.out⟩
    | true =>
      go_wp2
      have hb2 := HBLK.out.set1 f'
      have ho2 := Own.set HOWN.out HBLK.out 1 (.int .u64 f')
      have hB2 := below_set (v := .int .u64 f') (j := 1) HB.out HG.out
      have hK2 := HK.out.set_ 1 (.int .u64 f')
      have hpos := pk8_pos HPK.out
      clear HBLK HOWN HB HK hc0 hc1 hf1
      generalize wc.setCell ⟨g, 1, none⟩ (.int .u64 f') = wd at *
      obtain ⟨q, cap, e1, _, _, _⟩ := Kd.R_form ho2 hpos
      injection e1 with e1 e2 e3
      subst e1 e3
      obtain ⟨m, hm⟩ : ∃ m : Nat, xs'.length = m + 1 := ⟨xs'.length - 1, by omega⟩
      have hyb : 0 ≤ xs'.getD m 0 ∧ xs'.getD m 0 ≤ 255 := Bytes.get HPK.out.1 m
      have hmb : m ≤ 1000000 := by have := congrArg List.length HPK.out.2.2.2; rw [bitsOf_len, List.length_append, List.length_replicate] at this; omega
      obtain ⟨hx1, hx2⟩ := Kd.R_celln 0 ho2 (m : Int) (by omega) (by omega)
      rw [show rdOf 0 xs' (m : Int) = xs'.getD m 0 from by unfold rdOf; rw [Int.toNat_natCast], Int.toNat_natCast] at hx1
      rw [Int.toNat_natCast] at hx2
      have hc0 := hb2.c0
      have hc1 := hb2.c1
      rw [hm] at hc0
      have HPKS := Aside0.mk (pk_yes HPK.out)
      have HSET := Aside0.mk (Kd.R_putn ho2 (m : Int) (Go.bits .or .u8 (xs'.getD m 0) (2 ^ f'.toNat)))
      have HO2 := Aside0.mk ho2
      have HBL := Aside0.mk hb2
      have HBB := Aside0.mk hB2
      have HKK := Aside0.mk hK2
      have HM := Aside0.mk hm
      generalize hY : xs'.getD m 0 = y at *
      have HY := Aside0.mk hY
      clear e2 hpos ho2 hb2 hB2 hK2 hm hY
      have hw1 : IntKind.i64.wrap ((m : Int) + 1 - 1) = (m : Int) := by rw [i64_w]; unfold wrap64; omega
      have hw2 : IntKind.i64.wrap ((m : Int)) = (m : Int) := by rw [i64_w]; unfold wrap64; omega
      have hp1 : 0 ≤ (m : Int) := by omega
      have hp2 : (m : Int) < (m : Int) + 1 := by omega
      go_still_tail 19, (by kernel_rfl)
      change wpList _ _ _ _ _ wd.drew
      go_wp2
      go_end0
      have hpw : (2 : Int) ^ f'.toNat % 256 = 2 ^ f'.toNat := pow_fin f'.toNat (by omega)
      rw [hpw]
      have hqg : g ≠ q := fun h => Kd.R_ne HO2.out HBL.out (by decide) (by rw [h]; rfl)
      refine ⟨rfl, .slice (some ⟨q, 0, none⟩) xs'.length c', ⟨_, f', blk_far HBL.out hqg _, HG.out, ?_, HPKS.out⟩, ?_, keep_row HKK.out (HF.out q rfl) _ _, HF.out⟩
      · have := HSET.out
        rw [Int.toNat_natCast] at this
        have e1 := HM.out
        have e2 := HY.out
        rw [show xs'.length - 1 = m from by omega, e2]
        exact this
      · exact ((HBB.out).setCell (p := ⟨q, m, none⟩) (by assumption) _).drew
end Go.Proofs.Ytiihngpenpalaaa.Wr
