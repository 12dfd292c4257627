/- What the map of SpanJoins holds after some updates, and what a loop over it finds: plain Lean over the model's data; no condition but that no key comes twice in one list. -/
import Derived.Test.YtpdhcgicnhgfoaaQSpanJoinsx3
import Derived.Maps.OwnOps
import Derived.Maps.OwnSet
import Derived.Maps.RangeWalk
namespace Go.Proofs.Ytpdhcgicnhgfoaa.JMap
open Go.RowKit Go.Maps Go.Proofs.Ytpdhcgicnhgfoaa Go.Proofs.Ytpdhcgicnhgfoaa.QSpanJoins
def Holds (D : DataW Unit) (L1 L2 : List Int) : Prop :=
  Tidy D ∧ (∀ k : Int, D.atKey (.int .i64 k) (.lit (.int .i64 0)) = .lit (.int .i64 (mapAt L1 L2 k))) ∧ (∀ k : Int, Maps.has D (.int .i64 k) = decide (k ∈ L1 ∨ k ∈ L2)) ∧ Maps.size D = L1.length + (L2.filter fun z => !decide (z ∈ L1)).length
theorem holds_nil : Holds (.map []) [] [] := ⟨tidy_empty, fun _ => rfl, fun _ => rfl, rfl⟩
theorem kl (x : Int) : WideAt.IsKeyLit (Lit.int .i64 x) := trivial
theorem lit_ne {x k : Int} (h : ¬ k = x) : (Lit.int .i64 k) ≠ .int .i64 x := fun e => h (by injection e)
theorem or_fin : ∀ c : Fin 4, Go.bits .or .i64 (c.val : Int) 1 = (if c.val % 2 = 1 then (c.val : Int) else c.val + 1) ∧ Go.bits .or .i64 (c.val : Int) 2 = (if c.val / 2 = 1 then (c.val : Int) else c.val + 2) := by decide +kernel
theorem or_one (L1 L2 : List Int) (x : Int) : Go.bits .or .i64 (mapAt L1 L2 x) 1 = mapAt (L1 ++ [x]) L2 x := by
  have h0 := (or_fin 0).1
  have h1 := (or_fin 1).1
  have h2 := (or_fin 2).1
  have h3 := (or_fin 3).1
  unfold mapAt
  have hx : x ∈ L1 ++ [x] := by simp
  rw [if_pos hx]
  by_cases a : x ∈ L1 <;> by_cases b : x ∈ L2
  · rw [if_pos a, if_pos b]; exact h3
  · rw [if_pos a, if_neg b]; exact h1
  · rw [if_neg a, if_pos b]; exact h2
  · rw [if_neg a, if_neg b]; exact h0
theorem or_two (L1 L2 : List Int) (x : Int) : Go.bits .or .i64 (mapAt L1 L2 x) 2 = mapAt L1 (L2 ++ [x]) x := by
  have h0 := (or_fin 0).2
  have h1 := (or_fin 1).2
  have h2 := (or_fin 2).2
  have h3 := (or_fin 3).2
  unfold mapAt
  have hx : x ∈ L2 ++ [x] := by simp
  rw [if_pos hx]
  by_cases a : x ∈ L1 <;> by_cases b : x ∈ L2
  · rw [if_pos a, if_pos b]; exact h3
  · rw [if_pos a, if_neg b]; exact h1
  · rw [if_neg a, if_pos b]; exact h2
  · rw [if_neg a, if_neg b]; exact h0
theorem at_append {L : List Int} {x k : Int} (h : ¬ k = x) : (k ∈ L ++ [x]) = (k ∈ L) := by simp [h]
theorem mapAt_bound (L1 L2 : List Int) (k : Int) : 0 ≤ mapAt L1 L2 k ∧ mapAt L1 L2 k ≤ 3 := by
  unfold mapAt; split <;> split <;> omega
theorem holds_one {D : DataW Unit} {L1 : List Int} {x : Int} (h : Holds D L1 []) (hx : x ∉ L1) : Holds (D.put (.int .i64 x) (.lit (.int .i64 (mapAt (L1 ++ [x]) [] x)))) (L1 ++ [x]) [] := by
  obtain ⟨h1, h2, h3, h4⟩ := h
  refine ⟨h1.put (kl x) _, fun k => ?_, fun k => ?_, ?_⟩
  · by_cases e : k = x
    · subst e; rw [atKey_put_same h1.isMap (kl k)]
    · rw [atKey_put_other (lit_ne e), h2 k]; unfold mapAt; simp only [at_append e]
  · by_cases e : k = x
    · subst e; rw [has_put_same h1.isMap (kl k)]; simp
    · rw [has_put_other (lit_ne e), h3 k]; simp only [at_append e]
  · rw [size_put h1, h3 x, h4]; simp [hx]
theorem holds_two {D : DataW Unit} {L1 L2 : List Int} {x : Int} (h : Holds D L1 L2) (hx : x ∉ L2) : Holds (D.put (.int .i64 x) (.lit (.int .i64 (mapAt L1 (L2 ++ [x]) x)))) L1 (L2 ++ [x]) := by
  obtain ⟨h1, h2, h3, h4⟩ := h
  refine ⟨h1.put (kl x) _, fun k => ?_, fun k => ?_, ?_⟩
  · by_cases e : k = x
    · subst e; rw [atKey_put_same h1.isMap (kl k)]
    · rw [atKey_put_other (lit_ne e), h2 k]; unfold mapAt; simp only [at_append e]
  · by_cases e : k = x
    · subst e; rw [has_put_same h1.isMap (kl k)]; simp
    · rw [has_put_other (lit_ne e), h3 k]; simp only [at_append e]
  · rw [size_put h1, h3 x, h4, List.filter_append, List.length_append]
    by_cases e : x ∈ L1
    · simp [e]
    · simp [e, hx]; omega
theorem look_is {D : DataW Unit} {L1 L2 : List Int} (h : Holds D L1 L2) {x c : Int} (hat : D.atKey (.int .i64 x) (.lit (.int .i64 0)) = .lit (.int .i64 c)) : c = mapAt L1 L2 x := by
  rw [h.2.1 x] at hat
  injection hat with hat
  injection hat with _ hat
  exact hat.symm
theorem or_one_wf (L1 L2 : List Int) (x : Int) : (Lit.int .i64 (Go.bits .or .i64 (mapAt L1 L2 x) 1)).wf = true := by
  rw [or_one]
  have := mapAt_bound (L1 ++ [x]) L2 x
  exact WalkArith.wf_i64 (by omega)
theorem or_two_wf (L1 L2 : List Int) (x : Int) : (Lit.int .i64 (Go.bits .or .i64 (mapAt L1 L2 x) 2)).wf = true := by
  rw [or_two]
  have := mapAt_bound L1 (L2 ++ [x]) x
  exact WalkArith.wf_i64 (by omega)
theorem rd_get {l : List Int} {i : Nat} (hi : i < l.length) : YtpdhcgicnhgfoaaW.PrintWords.rd l (i : Int) = l[i] := by
  unfold YtpdhcgicnhgfoaaW.PrintWords.rd; rw [Int.toNat_natCast, List.getD_eq_getElem?_getD, List.getElem?_eq_getElem hi]; rfl
theorem rd_mem {l : List Int} {i : Int} (h0 : 0 ≤ i) (h1 : i < (l.length : Int)) : YtpdhcgicnhgfoaaW.PrintWords.rd l i ∈ l := by
  obtain ⟨n, rfl⟩ := Int.eq_ofNat_of_zero_le h0
  have hn : n < l.length := by omega
  rw [rd_get hn]
  exact List.getElem_mem hn
/-- what a loop over the map has found so far: no key that is done is one of the second list alone -/
def Seen (L1 L2 : List Int) (left : Lit → Bool) (h : Bool) : Prop := h = true ↔ ∀ k : Int, (k ∈ L1 ∨ k ∈ L2) → left (.int .i64 k) = false → mapAt L1 L2 k ≠ 2
theorem seen_start {D : DataW Unit} {L1 L2 : List Int} (h : Holds D L1 L2) : Seen L1 L2 (Maps.has D) true := by
  refine ⟨fun _ k hk hl => ?_, fun _ => rfl⟩
  rw [h.2.2.1 k] at hl
  exact absurd hk (of_decide_eq_false hl)
theorem same_int (k x : Int) : (Lit.int .i64 k).sameKey (.int .i64 x) = decide (k = x) := by
  by_cases e : k = x
  · subst e; rw [decide_eq_true rfl]; simp [Lit.sameKey]
  · rw [decide_eq_false e]; exact sameKey_ne (lit_ne e)
theorem seen_step {L1 L2 : List Int} {left : Lit → Bool} {h : Bool} {x c : Int} (hs : Seen L1 L2 left h) (hx : x ∈ L1 ∨ x ∈ L2) (hc : c = mapAt L1 L2 x) : Seen L1 L2 (fun z => left z && !z.sameKey (.int .i64 x)) (h && !decide (c = 2)) := by
  unfold Seen at hs ⊢
  rw [Bool.and_eq_true, hs, Bool.not_eq_true', decide_eq_false_iff_not, hc]
  constructor
  · rintro ⟨h1, h2⟩ k hk hl
    replace hl : (left (.int .i64 k) && !(Lit.int .i64 k).sameKey (.int .i64 x)) = false := hl
    rw [same_int, Bool.and_eq_false_iff] at hl
    rcases hl with hl | hl
    · exact h1 k hk hl
    · have : k = x := by simpa using hl
      rw [this]; exact h2
  · intro h1
    refine ⟨fun k hk hl => h1 k hk (by show (left (.int .i64 k) && _) = false; rw [hl]; rfl), h1 x hx (by show (left (.int .i64 x) && !(Lit.int .i64 x).sameKey (.int .i64 x)) = false; rw [same_int, decide_eq_true rfl]; simp)⟩
theorem seen_end {L1 L2 : List Int} {left : Lit → Bool} {h : Bool} (hs : Seen L1 L2 left h) (hl : ∀ kl, left kl = false) : h = decide (∀ z ∈ L2, z ∈ L1) := by
  unfold Seen at hs
  rw [Bool.eq_iff_iff, decide_eq_true_iff, hs]
  constructor
  · intro h1 z hz
    have h2 := h1 z (.inr hz) (hl _)
    by_cases e : z ∈ L1
    · exact e
    · exact absurd (by unfold mapAt; rw [if_neg e, if_pos hz]; rfl) h2
  · intro h1 k hk _
    have : k ∈ L1 := hk.elim id (h1 k)
    unfold mapAt
    rw [if_pos this]
    split <;> omega
end Go.Proofs.Ytpdhcgicnhgfoaa.JMap
