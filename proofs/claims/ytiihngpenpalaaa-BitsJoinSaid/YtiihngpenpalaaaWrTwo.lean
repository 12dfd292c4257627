/- Two writers beside each other, and two byte slices held against each other; no condition. -/
import Derived.Test.YtiihngpenpalaaaWrAwake
namespace Go.Proofs.Ytiihngpenpalaaa.Wr
open Go.RowKit Go.Proofs.Ytiihngpenpalaaa Go.Proofs.Ytiihngpenpalaaa.PBitsJoin Go.Proofs.YtiihngpenpalaaaW.PrintWords Go.Proofs.YtiihngpenpalaaaW.PrintLast Go.Proofs.YtiihngpenpalaaaW.PrintMore Bt Mth
theorem Is.other {w0 w w' : World} {g1 g2 : Nat} {v u : Value} {s s' t : List Bool} (h2 : Is w0 w g2 u t) (h1 : Is w0 w g1 v s) (hw : Wrote w0 w w' g1 v s') (hne : g2 ≠ g1) (hd : ∀ k, u.ownBlock = some k → v.ownBlock ≠ some k) : Is w0 w' g2 u t := by
  obtain ⟨ys, f2, b2, e2, o2, p2⟩ := h2
  obtain ⟨xs, f1, b1, e1, o1, p1⟩ := h1
  obtain ⟨v', _, _, hK, _⟩ := hw
  refine ⟨ys, f2, (hK.2 g2 (blk_lt b2) hne (Kd.R_ne o1 b2 (by decide))).trans b2, e2, ?_, p2⟩
  refine Kd.R_mono (Kd.R_step (Kd.R_tight rfl o2) (fun k hk hlt => hK.2 k hlt ?_ ?_)) (fun _ _ => trivial)
  · rintro rfl
    exact Kd.R_ne o2 b1 (by decide) hk
  · intro he
    exact hd k hk.symm he.symm
/-- two writers, apart -/
def Two (w0 W : World) (g1 : Nat) (v1 : Value) (s1 : List Bool) (g2 : Nat) (v2 : Value) (s2 : List Bool) : Prop :=
  Is w0 W g1 v1 s1 ∧ Is w0 W g2 v2 s2 ∧ g1 ≠ g2 ∧ ∀ k, v1.ownBlock = some k → v2.ownBlock ≠ some k
theorem Two.swap {w0 W : World} {g1 g2 : Nat} {v1 v2 : Value} {s1 s2 : List Bool} (h : Two w0 W g1 v1 s1 g2 v2 s2) : Two w0 W g2 v2 s2 g1 v1 s1 :=
  ⟨h.2.1, h.1, fun e => h.2.2.1 e.symm, fun k hk he => h.2.2.2 k he hk⟩
theorem Two.below {w0 W W1 : World} {g1 g2 : Nat} {v1 v2 : Value} {s1 s2 : List Bool} (h : Two w0 W g1 v1 s1 g2 v2 s2) (hb : Below W.heap.size W W1) : Two w0 W1 g1 v1 s1 g2 v2 s2 :=
  ⟨h.1.below hb, h.2.1.below hb, h.2.2.1, h.2.2.2⟩
theorem Two.left {w0 W W1 : World} {g1 g2 : Nat} {v1 v2 : Value} {s1 s2 s : List Bool} (h : Two w0 W g1 v1 s1 g2 v2 s2) (hw : Wrote w0 W W1 g1 v1 s) : ∃ v, Two w0 W1 g1 v s g2 v2 s2 ∧ Below w0.heap.size w0 W1 := by
  obtain ⟨h1, h2, h3, h4⟩ := h
  have ho := h2.other h1 hw (fun e => h3 e.symm) (fun k hk he => h4 k he hk)
  obtain ⟨v, i1, hB, hK, hF⟩ := hw
  refine ⟨v, ⟨i1, ho, h3, fun k hk he => ?_⟩, hB⟩
  rcases hF k hk with h | h
  · exact h4 k h he
  · obtain ⟨xs, f, _, _, o2, _⟩ := h2
    have := Kd.R_lt o2 k he
    omega
theorem Two.new (w0 : World) : Two w0 ((w0.alloc (.cells #[.slice none 0 0, .int .u64 0] 27)).alloc (.cells #[.slice none 0 0, .int .u64 0] 27)) w0.heap.size (.slice none 0 0) [] (w0.heap.size + 1) (.slice none 0 0) [] := by
  have h1 := Is.new w0 w0 (Below.refl _ _)
  have hB := (Below.refl w0.heap.size w0).alloc (Nat.le_refl _) (.cells #[.slice none 0 0, .int .u64 0] 27)
  have h2 := Is.new w0 _ hB
  have es : (w0.alloc (.cells #[.slice none 0 0, .int .u64 0] 27)).heap.size = w0.heap.size + 1 := by simp
  rw [es] at h2
  exact ⟨h1.below ((Below.refl _ _).alloc (Nat.le_refl _) _), h2, by omega, fun k hk => by simp [Value.ownBlock] at hk⟩
theorem str_toList (l : List Int) : (strOfNums l).toList = l.map fun n => UInt8.ofNat n.toNat := by
  rw [ByteArray.toList_eq]; simp [strOfNums]
theorem str_inj {a b : List Int} (ha : Bytes a) (hb : Bytes b) (h : (strOfNums a).toList = (strOfNums b).toList) : a = b := by
  rw [str_toList, str_toList] at h
  induction a generalizing b with
  | nil => cases b with
    | nil => rfl
    | cons y b => simp at h
  | cons x a ih => cases b with
    | nil => simp at h
    | cons y b =>
      simp only [List.map_cons, List.cons.injEq] at h
      have hx := ha x (by simp)
      have hy := hb y (by simp)
      have e := congrArg UInt8.toNat h.1
      simp only [UInt8.toNat_ofNat'] at e
      rw [ih (fun z hz => ha z (List.mem_cons_of_mem _ hz)) (fun z hz => hb z (List.mem_cons_of_mem _ hz)) h.2]
      congr 1; omega
set_option maxHeartbeats 4000000 in
theorem same_calls (w : World) (A0 A1 : Option Addr) (c0 c1 : Nat) (l0 l1 : List Int) (hr0 : Kd.C (Kd.int .u8) w A0 l0.length l0) (hr1 : Kd.C (Kd.int .u8) w A1 l1.length l1) :
    Calls Try.prog 13 #[.slice A0 l0.length c0, .slice A1 l1.length c1] w fun e w' => e = .returned (.bool ((strOfNums l0).toList == (strOfNums l1).toList)) ∧ ∃ n, w' = w.drewN n := by
  have hcv3 := Kd.C_string (P := Try.prog) (A := A0) (c := c0) Try.underlying24 Try.underlying5 Try.underlying9 hr0
  have hcv4 := Kd.C_string (P := Try.prog) (A := A1) (c := c1) Try.underlying24 Try.underlying5 Try.underlying9 hr1
  clear hr0 hr1
  go_enter Try.func13, Try.ntmps13
  go_wp2
  go_ret
  exact ⟨rfl, 0, rfl⟩
/-- whose bits are alike, of one length -/
theorem pk_same {xs ys : List Int} {f g : Int} {s t : List Bool} (hx : Pk xs f s) (hy : Pk ys g t) (hl : s.length = t.length) : ((strOfNums xs).toList == (strOfNums ys).toList) = decide (s = t) := by
  have l1 := pk_len hx
  have l2 := pk_len hy
  obtain ⟨x1, x2, x3, x4⟩ := hx
  obtain ⟨y1, y2, y3, y4⟩ := hy
  have hfg : f = g := by omega
  subst hfg
  rw [Bool.eq_iff_iff, beq_iff_eq, decide_eq_true_iff]
  constructor
  · intro h
    have e := str_inj x1 y1 h
    rw [e, y4] at x4
    exact (List.append_inj x4 hl.symm).1.symm
  · intro h
    rw [h, ← y4] at x4
    rw [bitsOf_inj x1 y1 x4]
end Go.Proofs.Ytiihngpenpalaaa.Wr
