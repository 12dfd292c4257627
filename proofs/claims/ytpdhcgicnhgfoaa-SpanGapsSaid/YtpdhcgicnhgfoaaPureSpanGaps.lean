/- What SpanGaps computes is true for every input: a layout has as many runs as its indices have beginnings, and moves with them. It holds for all its parameters, no condition. -/
import Derived.Test.YtpdhcgicnhgfoaaQSpanGapsx4
import Derived.Test.YtpdhcgicnhgfoaaMth
namespace Go.Proofs.Ytpdhcgicnhgfoaa.Pure.LSpanGaps
open Go.RowKit Go.Proofs.Ytpdhcgicnhgfoaa.QSpanGaps Go.Proofs.YtpdhcgicnhgfoaaW.PrintWords Go.Proofs.YtpdhcgicnhgfoaaW.PrintLast Go.Proofs.YtpdhcgicnhgfoaaW.PrintMore Mth
/-- an index list's runs, as the loop makes them -/
def incLast (sp : List S38) : List S38 := sp.set (sp.length - 1) ⟨(sp.getD (sp.length - 1) z38).f0, (sp.getD (sp.length - 1) z38).f1 + 1⟩
def stepS (p : Int) (sp : List S38) (c : Int) : List S38 := if p + 1 = c then incLast sp else sp ++ [⟨c - p - 1, 1⟩]
def ofGo : Int → List S38 → List Int → List S38
  | _, sp, [] => sp
  | p, sp, c :: r => ofGo c (stepS p sp c) r
def ofV : List Int → Int × List S38
  | [] => (0, [])
  | c :: r => (c, ofGo c [⟨0, 1⟩] r)
def rng (a : Int) : Nat → List Int
  | 0 => []
  | n + 1 => a :: rng (a + 1) n
def expand (a : Int) : List S38 → List Int
  | [] => []
  | s :: r => rng (a + s.f0) s.f1.toNat ++ expand (a + s.f0 + s.f1) r
def endOf (a : Int) : List S38 → Int
  | [] => a
  | s :: r => endOf (a + s.f0 + s.f1) r
theorem incLast_snoc (l : List S38) (s : S38) : incLast (l ++ [s]) = l ++ [⟨s.f0, s.f1 + 1⟩] := by
  unfold incLast
  have e : (l ++ [s]).length - 1 = l.length := by simp
  rw [e]
  simp [List.getD_eq_getElem?_getD, List.set_append]
theorem snoc_of {α : Type} {l : List α} (h : l ≠ []) : ∃ i s, l = i ++ [s] := ⟨l.dropLast, l.getLast h, (List.dropLast_concat_getLast h).symm⟩
theorem stepS_ne {p c : Int} {sp : List S38} (h : sp ≠ []) : stepS p sp c ≠ [] := by
  obtain ⟨i, s, rfl⟩ := snoc_of h
  unfold stepS
  split
  · rw [incLast_snoc]; simp
  · simp
theorem stepS_len (p c : Int) (sp : List S38) (h : sp ≠ []) : (stepS p sp c).length = sp.length + if p + 1 = c then 0 else 1 := by
  obtain ⟨i, s, rfl⟩ := snoc_of h
  unfold stepS
  split
  · rw [incLast_snoc]; simp
  · simp
/-- each length is at most so much -/
def LenLe (n : Int) (sp : List S38) : Prop := ∀ s ∈ sp, 1 ≤ s.f1 ∧ s.f1 ≤ n
theorem LenLe.mono {n m : Int} {sp : List S38} (h : LenLe n sp) (hm : n ≤ m) : LenLe m sp := fun s hs => ⟨(h s hs).1, Int.le_trans (h s hs).2 hm⟩
theorem stepS_le {n p c : Int} {sp : List S38} (h : sp ≠ []) (hl : LenLe n sp) (hn : 0 ≤ n) : LenLe (n + 1) (stepS p sp c) := by
  obtain ⟨i, s, rfl⟩ := snoc_of h
  unfold stepS
  split
  · rw [incLast_snoc]
    intro t ht
    rw [List.mem_append] at ht
    rcases ht with ht | ht
    · have := hl t (by simp [ht]); omega
    · have := hl s (by simp)
      rw [List.mem_singleton] at ht
      subst ht; simp; omega
  · intro t ht
    rw [List.mem_append] at ht
    rcases ht with ht | ht
    · have := hl t ht; omega
    · rw [List.mem_singleton] at ht
      subst ht; simp; omega
theorem of_loop (xs : List S36) (hb : ∀ x ∈ xs, -1099511627776 ≤ x.f0 ∧ x.f0 ≤ 1099511627776) (hm : xs.length ≤ 1000000000) (first : Int) (d : Nat) : ∀ (k n : Nat) (p : Int) (sp : List S38), sp ≠ [] → LenLe n sp → sp.length ≤ n → xs.length - n = d → 1 ≤ n → n ≤ xs.length → p = (xs.getD (n - 1) z36).f0 → d < k →
    span_Of.l0 k xs xs (xs.length : Int) (n : Int) first sp = some (first, ofGo p sp ((xs.map S36.f0).drop n)) := by
  induction d with
  | zero =>
    intro k n p sp hne hl hsl hd hn hn2 hp hk
    obtain ⟨k, rfl⟩ : ∃ m, k = m + 1 := ⟨k - 1, by omega⟩
    simp only [span_Of.l0]
    rw [if_neg (by omega), List.drop_eq_nil_of_le (by simp; omega)]; rfl
  | succ d ih =>
    intro k n p sp hne hl hsl hd hn hn2 hp hk
    obtain ⟨k, rfl⟩ : ∃ m, k = m + 1 := ⟨k - 1, by omega⟩
    have hlt : n < xs.length := by omega
    have hx := hb _ (List.getElem_mem hlt)
    have hlt' : n - 1 < xs.length := by omega
    have hx' := hb _ (List.getElem_mem hlt')
    have ep : p = xs[n - 1].f0 := by rw [hp]; simp [hlt']
    have er : rd_T36 xs (n : Int) = xs[n] := by unfold rd_T36; simp [hlt]
    have er' : rd_T36 xs ((n : Int) - 1) = xs[n - 1] := by unfold rd_T36; rw [show ((n : Int) - 1).toNat = n - 1 from by omega]; simp [hlt']
    simp only [span_Of.l0]
    rw [if_pos (by omega), if_pos (by omega), if_pos (by omega), if_neg (by omega), w64 (x := (n : Int) - 1) (by omega) (by omega), if_pos (by omega), if_pos (by omega), er, er', ← ep, w64 (x := (n : Int) + 1) (by omega) (by omega)]
    rw [← ep] at hx'
    rw [w64 (x := p + 1) (by omega) (by omega), w64 (x := xs[n].f0 - p) (by omega) (by omega), w64 (x := xs[n].f0 - p - 1) (by omega) (by omega)]
    have edrop : (xs.map S36.f0).drop n = xs[n].f0 :: (xs.map S36.f0).drop (n + 1) := by
      rw [List.drop_eq_getElem_cons (by simp; omega)]; simp
    rw [edrop]
    simp only [ofGo]
    have hne' := stepS_ne (p := p) (c := xs[n].f0) hne
    have hle' := stepS_le (p := p) (c := xs[n].f0) hne hl (by omega)
    have hlen' := stepS_len p xs[n].f0 sp hne
    have hgo := ih k (n + 1) xs[n].f0 (stepS p sp xs[n].f0) hne' (by exact_mod_cast hle') (by rw [hlen']; split <;> omega) (by omega) (by omega) (by omega) (by simp [hlt]) (by omega)
    have hpos : 0 < sp.length := List.length_pos_iff.2 hne
    by_cases c : p + 1 = xs[n].f0
    · rw [if_pos c, w64 (x := (sp.length : Int) - 1) (by omega) (by omega), if_pos (by omega), if_pos (by omega)]
      have e1 : ((sp.length : Int) - 1).toNat = sp.length - 1 := by omega
      have e2 : rd_T38 sp ((sp.length : Int) - 1) = sp.getD (sp.length - 1) z38 := by unfold rd_T38; rw [e1]
      have e3 : sp.getD (sp.length - 1) z38 ∈ sp := by
        rw [List.getD_eq_getElem?_getD, List.getElem?_eq_getElem (by omega), Option.getD_some]; exact List.getElem_mem _
      have e4 := hl _ e3
      rw [e1, e2, w64 (x := (sp.getD (sp.length - 1) z38).f1 + 1) (by omega) (by omega)]
      have e5 : stepS p sp xs[n].f0 = sp.set (sp.length - 1) ⟨(sp.getD (sp.length - 1) z38).f0, (sp.getD (sp.length - 1) z38).f1 + 1⟩ := by
        unfold stepS; rw [if_pos c]; rfl
      rw [← e5]; exact hgo
    · rw [if_neg c, if_pos (by omega)]
      have e5 : stepS p sp xs[n].f0 = sp ++ [⟨xs[n].f0 - p - 1, 1⟩] := by unfold stepS; rw [if_neg c]
      rw [← e5]; exact hgo
theorem of_val (xs : List S36) (hb : ∀ x ∈ xs, -1099511627776 ≤ x.f0 ∧ x.f0 ≤ 1099511627776) (hm : xs.length ≤ 1000000000) {k : Nat} (hk : xs.length < k) :
    span_Of.f k xs = some (ofV (xs.map S36.f0)) := by
  obtain ⟨k, rfl⟩ : ∃ m, k = m + 1 := ⟨k - 1, by omega⟩
  unfold span_Of.f
  simp only [span_Of.l0]
  match xs, hb, hm, hk with
  | [], _, _, _ => rw [if_neg (by simp)]; rfl
  | x :: r, hb, hm, hk =>
    simp only [List.length_cons] at hm hk
    rw [if_pos (by simp), if_pos (by omega), if_pos (by simp)]
    simp only [if_true]
    have hgo := of_loop (x :: r) hb (by simp; omega) x.f0 r.length k 1 x.f0 [⟨0, 1⟩] (by simp) (by intro s hs; rw [List.mem_singleton] at hs; subst hs; simp) (by simp) (by simp) (by omega) (by simp) rfl (by omega)
    rw [show wrap64 (0 + 1) = 1 from by decide +kernel]
    exact hgo
theorem expand_snoc (l : List S38) : ∀ (a : Int) (s : S38), expand a (l ++ [s]) = expand a l ++ rng (endOf a l + s.f0) s.f1.toNat := by
  induction l with
  | nil => intro a s; simp [expand, endOf]
  | cons t l ih => intro a s; simp only [List.cons_append, expand, endOf, ih, List.append_assoc]
theorem endOf_snoc (l : List S38) : ∀ (a : Int) (s : S38), endOf a (l ++ [s]) = endOf a l + s.f0 + s.f1 := by
  induction l with
  | nil => intro a s; simp [endOf]
  | cons t l ih => intro a s; simp only [List.cons_append, endOf, ih]
theorem rng_snoc (n : Nat) : ∀ a : Int, rng a (n + 1) = rng a n ++ [a + n] := by
  induction n with
  | zero => intro a; simp [rng]
  | succ n ih =>
    intro a
    rw [show rng a (n + 1 + 1) = a :: rng (a + 1) (n + 1) from rfl, ih, show rng a (n + 1) = a :: rng (a + 1) n from rfl]
    simp; omega
theorem stepS_expand {p c first : Int} {sp : List S38} (hne : sp ≠ []) (hl : ∀ s ∈ sp, 1 ≤ s.f1) (he : endOf first sp = p + 1) :
    expand first (stepS p sp c) = expand first sp ++ [c] ∧ endOf first (stepS p sp c) = c + 1 := by
  obtain ⟨i, s, rfl⟩ := snoc_of hne
  have h1 := hl s (by simp)
  unfold stepS
  by_cases h : p + 1 = c
  · rw [if_pos h, incLast_snoc, expand_snoc, expand_snoc, endOf_snoc]
    rw [endOf_snoc] at he
    refine ⟨?_, by simp only; omega⟩
    simp only
    rw [show (s.f1 + 1).toNat = s.f1.toNat + 1 from by omega, rng_snoc, List.append_assoc]
    congr 3; omega
  · rw [if_neg h, expand_snoc (i ++ [s]), endOf_snoc (i ++ [s]), he]
    refine ⟨?_, by simp only; omega⟩
    simp only
    rw [show p + 1 + (c - p - 1) = c from by omega]; rfl
theorem ofGo_expand (r : List Int) : ∀ (p first : Int) (sp : List S38), sp ≠ [] → (∀ s ∈ sp, 1 ≤ s.f1) → endOf first sp = p + 1 → expand first (ofGo p sp r) = expand first sp ++ r ∧ (∀ s ∈ ofGo p sp r, 1 ≤ s.f1) ∧ ofGo p sp r ≠ [] := by
  induction r with
  | nil => intro p first sp hne hl he; simp [ofGo]; exact ⟨hl, hne⟩
  | cons c r ih =>
    intro p first sp hne hl he
    have h := stepS_expand (c := c) hne hl he
    have hl' : ∀ s ∈ stepS p sp c, 1 ≤ s.f1 := by
      obtain ⟨i, s, rfl⟩ := snoc_of hne
      have h1 := hl s (by simp)
      unfold stepS
      split
      · rw [incLast_snoc]
        intro t ht
        rw [List.mem_append] at ht
        rcases ht with ht | ht
        · exact hl t (by simp [ht])
        · rw [List.mem_singleton] at ht; subst ht; simp only; omega
      · intro t ht
        rw [List.mem_append] at ht
        rcases ht with ht | ht
        · exact hl t ht
        · rw [List.mem_singleton] at ht; subst ht; simp only; omega
    have := ih c first (stepS p sp c) (stepS_ne hne) hl' h.2
    simp only [ofGo]
    rw [this.1, h.1]
    exact ⟨by simp, this.2⟩
/-- a layout's indices are those that it was made of -/
theorem ofV_expand (l : List Int) : expand (ofV l).1 (ofV l).2 = l ∧ (∀ s ∈ (ofV l).2, 1 ≤ s.f1) := by
  cases l with
  | nil => simp [ofV, expand]
  | cons c r =>
    have := ofGo_expand r c c [⟨0, 1⟩] (by simp) (by intro s hs; rw [List.mem_singleton] at hs; subst hs; simp) (by simp [endOf])
    simp only [ofV]
    rw [this.1]
    refine ⟨?_, this.2.1⟩
    simp [expand, rng]
theorem rng_len (n : Nat) : ∀ a : Int, (rng a n).length = n := by
  induction n with
  | zero => intro a; rfl
  | succ n ih => intro a; simp [rng, ih]
/-- the rounds that a layout's indices take -/
def rounds : List S38 → Nat
  | [] => 1
  | s :: r => s.f1.toNat + 2 + rounds r
/-- every place that the walk over a layout comes to is a small number -/
def Small (B : Int) (a : Int) : List S38 → Prop
  | [] => -B ≤ a ∧ a ≤ B
  | s :: r => (-B ≤ a ∧ a ≤ B) ∧ (-B ≤ a + s.f0 ∧ a + s.f0 ≤ B) ∧ 0 ≤ s.f1 ∧ s.f1 ≤ B ∧ Small B (a + s.f0 + s.f1) r
theorem Small.head {B a : Int} {l : List S38} (h : Small B a l) : -B ≤ a ∧ a ≤ B := by
  cases l with
  | nil => exact h
  | cons s r => exact h.1
theorem ix_l1 (sp : List S38) (i n : Int) (hn : n ≤ 4611686018427387904) (d : Nat) : ∀ (k : Nat) (acc : List Int) (a j : Int), n - j = d → 0 ≤ j → -2305843009213693952 ≤ a → a + d ≤ 2305843009213693952 → acc.length + d < 17592186044416 → d < k →
    span_Indices.l1 k acc a sp (sp.length : Int) i n j = span_Indices.l0 (k - d - 1) (acc ++ rng a d) (a + d) sp (sp.length : Int) (wrap64 (i + 1)) := by
  induction d with
  | zero =>
    intro k acc a j hd hj ha ha2 hl hk
    obtain ⟨k, rfl⟩ : ∃ m, k = m + 1 := ⟨k - 1, by omega⟩
    simp only [span_Indices.l1]
    rw [if_neg (by omega)]
    simp [rng]
  | succ d ih =>
    intro k acc a j hd hj ha ha2 hl hk
    obtain ⟨k, rfl⟩ : ∃ m, k = m + 1 := ⟨k - 1, by omega⟩
    simp only [span_Indices.l1]
    rw [if_pos (by omega), if_pos (by omega), w64 (x := a + 1) (by omega) (by omega), w64 (x := j + 1) (by omega) (by omega)]
    rw [ih k (acc ++ [a]) (a + 1) (j + 1) (by omega) (by omega) (by omega) (by omega) (by simp; omega) (by omega)]
    rw [show rng a (d + 1) = a :: rng (a + 1) d from rfl, List.append_assoc, List.singleton_append, show a + 1 + (d : Int) = a + ((d + 1 : Nat) : Int) from by omega, show k + 1 - (d + 1) - 1 = k - d - 1 from by omega]
theorem ix_l0 (sp : List S38) (hm : sp.length ≤ 1000000000) (d : Nat) : ∀ (k n : Nat) (acc : List Int) (a : Int), sp.length - n = d → n ≤ sp.length → Small 1099511627776 a (sp.drop n) → acc.length + (expand a (sp.drop n)).length < 17592186044416 → rounds (sp.drop n) ≤ k →
    span_Indices.l0 k acc a sp (sp.length : Int) (n : Int) = some (acc ++ expand a (sp.drop n)) := by
  induction d with
  | zero =>
    intro k n acc a hd hn hs hl hk
    have hnil : sp.drop n = [] := List.drop_eq_nil_of_le (by omega)
    rw [hnil] at hk ⊢
    simp only [rounds] at hk
    obtain ⟨k, rfl⟩ : ∃ m, k = m + 1 := ⟨k - 1, by omega⟩
    simp only [span_Indices.l0]
    rw [if_neg (by omega)]; simp [expand]
  | succ d ih =>
    intro k n acc a hd hn hs hl hk
    have hlt : n < sp.length := by omega
    have ed : sp.drop n = sp[n] :: sp.drop (n + 1) := List.drop_eq_getElem_cons hlt
    rw [ed] at hs hl hk ⊢
    obtain ⟨b1, b2, b3, b4, hs'⟩ := hs
    simp only [rounds] at hk
    obtain ⟨k, rfl⟩ : ∃ m, k = m + 1 := ⟨k - 1, by omega⟩
    have er : rd_T38 sp (n : Int) = sp[n] := by unfold rd_T38; simp [hlt]
    have hh := hs'.head
    simp only [expand, List.length_append, rng_len] at hl
    simp only [span_Indices.l0]
    rw [if_pos (by omega), if_pos (by omega), if_pos (by omega), er, w64 (x := a + sp[n].f0) (by omega) (by omega)]
    rw [ix_l1 sp (n : Int) sp[n].f1 (by omega) sp[n].f1.toNat k acc (a + sp[n].f0) 0 (by omega) (by omega) (by omega) (by omega) (by omega) (by omega)]
    rw [w64 (x := (n : Int) + 1) (by omega) (by omega)]
    have := ih (k - sp[n].f1.toNat - 1) (n + 1) (acc ++ rng (a + sp[n].f0) sp[n].f1.toNat) (a + sp[n].f0 + sp[n].f1) (by omega) (by omega) hs' (by simp [rng_len]; omega) (by omega)
    rw [show a + sp[n].f0 + (sp[n].f1.toNat : Int) = a + sp[n].f0 + sp[n].f1 from by omega]
    simp only [expand]
    rw [← List.append_assoc]
    exact this
theorem ix_val (a : Int) (sp : List S38) (hm : sp.length ≤ 1000000000) (hs : Small 1099511627776 a sp) (hl : (expand a sp).length ≤ 1000000000) {k : Nat} (hk : rounds sp ≤ k) : span_Indices.f k a sp = some (expand a sp) := by
  unfold span_Indices.f
  have := ix_l0 sp hm sp.length k 0 [] a (by omega) (by omega) (by simpa using hs) (by simp; omega) (by simpa using hk)
  simpa using this
/-- a layout of small indices: its places are small -/
theorem small_snoc {B : Int} (l : List S38) : ∀ (a : Int) (s : S38), Small B a l → -B ≤ endOf a l + s.f0 → endOf a l + s.f0 ≤ B → 0 ≤ s.f1 → s.f1 ≤ B → -B ≤ endOf a l + s.f0 + s.f1 → endOf a l + s.f0 + s.f1 ≤ B → Small B a (l ++ [s]) := by
  induction l with
  | nil => intro a s h h1 h2 h3 h4 h5 h6; exact ⟨h, ⟨h1, h2⟩, h3, h4, ⟨h5, h6⟩⟩
  | cons t l ih => intro a s h h1 h2 h3 h4 h5 h6; exact ⟨h.1, h.2.1, h.2.2.1, h.2.2.2.1, ih _ s h.2.2.2.2 h1 h2 h3 h4 h5 h6⟩
theorem small_init {B : Int} (l : List S38) : ∀ (a : Int) (s : S38), Small B a (l ++ [s]) → Small B a l ∧ (-B ≤ endOf a l + s.f0 ∧ endOf a l + s.f0 ≤ B) := by
  induction l with
  | nil => intro a s h; exact ⟨h.1, h.2.1⟩
  | cons t l ih => intro a s h; have := ih _ s h.2.2.2.2; exact ⟨⟨h.1, h.2.1, h.2.2.1, h.2.2.2.1, this.1⟩, this.2⟩
/-- rising numbers within bounds -/
def Rise (lo hi : Int) : List Int → Prop
  | [] => True
  | c :: r => lo < c ∧ c ≤ hi ∧ Rise c hi r
theorem Rise.mono {lo lo' hi : Int} {l : List Int} (h : Rise lo hi l) (hle : lo' ≤ lo) : Rise lo' hi l := by
  cases l with
  | nil => trivial
  | cons c r => exact ⟨by have := h.1; omega, h.2.1, h.2.2⟩
theorem Rise.mem {hi : Int} {l : List Int} : ∀ {lo : Int}, Rise lo hi l → ∀ x ∈ l, lo < x ∧ x ≤ hi := by
  induction l with
  | nil => intro lo _ x hx; simp at hx
  | cons c r ih =>
    intro lo h x hx
    rw [List.mem_cons] at hx
    rcases hx with rfl | hx
    · exact ⟨h.1, h.2.1⟩
    · have := ih h.2.2 x hx
      exact ⟨by have := h.1; omega, this.2⟩
/-- each run's shape: one behind the other by one at least, the first one not -/
def Shape : List S38 → Prop
  | [] => True
  | s :: r => 1 ≤ s.f0 ∧ 1 ≤ s.f1 ∧ Shape r
theorem shape_snoc (l : List S38) (s : S38) : Shape (l ++ [s]) ↔ Shape l ∧ 1 ≤ s.f0 ∧ 1 ≤ s.f1 := by
  induction l with
  | nil => simp [Shape]
  | cons t l ih => simp only [List.cons_append, Shape, ih]; constructor <;> intro h <;> simp_all
def Canon : List S38 → Prop
  | [] => True
  | s :: r => s.f0 = 0 ∧ 1 ≤ s.f1 ∧ Shape r
theorem stepS_canon {p c : Int} {sp : List S38} (hne : sp ≠ []) (h : Canon sp) (hpc : p < c) : Canon (stepS p sp c) := by
  obtain ⟨i, s, rfl⟩ := snoc_of hne
  unfold stepS
  by_cases e : p + 1 = c
  · rw [if_pos e, incLast_snoc]
    cases i with
    | nil => simp only [List.nil_append, Canon] at h ⊢; exact ⟨h.1, by omega, h.2.2⟩
    | cons t i =>
      simp only [List.cons_append, Canon] at h ⊢
      rw [shape_snoc] at h ⊢
      exact ⟨h.1, h.2.1, h.2.2.1, h.2.2.2.1, by have := h.2.2.2.2; simp only; omega⟩
  · rw [if_neg e]
    cases i with
    | nil => simp only [List.nil_append, List.singleton_append, Canon, Shape] at h ⊢; exact ⟨h.1, h.2.1, by omega, by omega, trivial⟩
    | cons t i =>
      simp only [List.cons_append, Canon] at h ⊢
      rw [shape_snoc]
      exact ⟨h.1, h.2.1, h.2.2, by simp only; omega, by simp⟩
theorem stepS_small {B p c first : Int} {sp : List S38} (hne : sp ≠ []) (hl : ∀ s ∈ sp, 1 ≤ s.f1) (hs : Small B first sp) (he : endOf first sp = p + 1) (hpc : p < c) (hc : c + 1 ≤ B) (hp : -B ≤ p) (hf : ∀ s ∈ sp, s.f1 + 1 ≤ B) (hB : 1 ≤ B) : Small B first (stepS p sp c) := by
  obtain ⟨i, s, rfl⟩ := snoc_of hne
  have h1 := hl s (by simp)
  have h2 := hf s (by simp)
  have hi := small_init i first s hs
  rw [endOf_snoc] at he
  unfold stepS
  by_cases e : p + 1 = c
  · rw [if_pos e, incLast_snoc]
    exact small_snoc i first _ hi.1 (by simp only; omega) (by simp only; omega) (by simp only; omega) (by simp only; omega) (by simp only; omega) (by simp only; omega)
  · rw [if_neg e]
    refine small_snoc (i ++ [s]) first _ hs ?_ ?_ ?_ ?_ ?_ ?_ <;> (try rw [endOf_snoc]) <;> simp only <;> omega
theorem ofGo_good {B : Int} (hB : 1 ≤ B) (r : List Int) : ∀ (p first : Int) (sp : List S38) (n : Int), sp ≠ [] → Canon sp → (∀ s ∈ sp, 1 ≤ s.f1) → Small B first sp → endOf first sp = p + 1 → Rise p (B - 1) r → -B ≤ p → LenLe n sp → 0 ≤ n → n + r.length ≤ B - 1 →
    Canon (ofGo p sp r) ∧ Small B first (ofGo p sp r) ∧ LenLe (n + r.length) (ofGo p sp r) ∧ (ofGo p sp r).length ≤ sp.length + r.length := by
  induction r with
  | nil => intro p first sp n hne hc hl hs he hr hp hn hn0 hnb; simp [ofGo]; exact ⟨hc, hs, hn⟩
  | cons c r ih =>
    intro p first sp n hne hc hl hs he hr hp hn hn0 hnb
    simp only [List.length_cons] at hnb
    obtain ⟨r1, r2, r3⟩ := hr
    have h := stepS_expand (c := c) hne hl he
    have hl' := stepS_le (p := p) (c := c) hne hn hn0
    have := ih c first (stepS p sp c) (n + 1) (stepS_ne hne) (stepS_canon hne hc r1) (fun s hs => (hl' s hs).1)
      (stepS_small hne hl hs he r1 (by omega) hp (fun s hs => by have := (hn s hs).2; omega) hB) h.2 r3 (by omega) hl' (by omega) (by omega)
    have hlen := stepS_len p c sp hne
    simp only [ofGo, List.length_cons]
    refine ⟨this.1, this.2.1, ?_, ?_⟩
    · have e := this.2.2.1; rw [show n + ((r.length + 1 : Nat) : Int) = n + 1 + r.length from by omega]; exact e
    · have := this.2.2.2; rw [hlen] at this; split at this <;> omega
/-- of rising numbers: the layout is in form, its places are small -/
theorem ofV_good {B lo : Int} (l : List Int) (h : Rise lo (B - 1) l) (hlo : -B ≤ lo) (hB : (l.length : Int) + 1 ≤ B) : Canon (ofV l).2 ∧ Small B (ofV l).1 (ofV l).2 ∧ LenLe l.length (ofV l).2 ∧ (ofV l).2.length ≤ l.length := by
  cases l with
  | nil => simp only [List.length_nil] at hB; simp [ofV, Canon, Small, LenLe]; omega
  | cons c r =>
    simp only [List.length_cons] at hB
    obtain ⟨r1, r2, r3⟩ := h
    have := ofGo_good (B := B) (by omega) r c c [⟨0, 1⟩] 1 (by simp) (by simp [Canon, Shape]) (by intro s hs; rw [List.mem_singleton] at hs; subst hs; simp)
      (by simp only [Small]; omega) (by simp [endOf]) r3 (by omega) (by intro s hs; rw [List.mem_singleton] at hs; subst hs; simp) (by omega) (by omega)
    simp only [ofV, List.length_cons]
    refine ⟨this.1, this.2.1, ?_, ?_⟩
    · have e := this.2.2.1; rw [show ((r.length + 1 : Nat) : Int) = 1 + r.length from by omega]; exact e
    · have := this.2.2.2; simp at this; omega
theorem rounds_le (l : List S38) : ∀ a : Int, rounds l = (expand a l).length + 2 * l.length + 1 := by
  induction l with
  | nil => intro a; rfl
  | cons s r ih => intro a; simp only [rounds, expand, List.length_append, rng_len, List.length_cons, ih (a + s.f0 + s.f1)]; omega
/-- the indices of the layout of rising numbers -/
theorem ix_of {lo : Int} (l : List Int) (h : Rise lo 1000000000 l) (hlo : -1000000000 ≤ lo) (hlen : l.length ≤ 1000000) {k : Nat} (hk : 3 * l.length + 1 ≤ k) : span_Indices.f k (ofV l).1 (ofV l).2 = some l := by
  have hg := ofV_good (B := 1099511627776) (lo := lo) l (by
    clear hlen hk hlo
    induction l generalizing lo with
    | nil => trivial
    | cons c r ih => exact ⟨h.1, by have := h.2.1; omega, ih h.2.2⟩) (by omega) (by omega)
  have he := ofV_expand l
  have hr := rounds_le (ofV l).2 (ofV l).1
  rw [he.1] at hr
  rw [ix_val (ofV l).1 (ofV l).2 (by omega) hg.2.1 (by rw [he.1]; omega) (by omega), he.1]
def stp (n : Int) : Int := 1 + n % 5 / 3 * (n % 7)
def risIds : Int → List Int → List Int
  | _, [] => []
  | a, n :: r => (a + stp n) :: risIds (a + stp n) r
def risB : Int → Nat → List Int → List Int → List S36
  | _, _, [], _ => []
  | a, i, n :: r, cs => ⟨a + stp n, cs.getD i 0⟩ :: risB (a + stp n) (i + 1) r cs
theorem stp_bound {n : Int} (h0 : 0 ≤ n) : 1 ≤ stp n ∧ stp n ≤ 7 := by
  unfold stp
  have h : n % 5 / 3 = 0 ∨ n % 5 / 3 = 1 := by omega
  rcases h with h | h <;> rw [h] <;> omega
theorem stp_val {n a : Int} (h0 : 0 ≤ n) (h1 : n ≤ 255) (ha : -1000000 ≤ a ∧ a ≤ 1000000) :
    wrap64 (a + (wrap64 (1 + (wrap64 ((wrap64 (Int.tdiv (wrap64 (Int.tmod n 5)) 3)) * (wrap64 (Int.tmod n 7))))))) = a + stp n := by
  have hb := stp_bound h0
  have e1 : wrap64 (Int.tmod n 5) = n % 5 := by rw [Int.tmod_eq_emod_of_nonneg h0, w64 (by omega) (by omega)]
  have e2 : wrap64 (Int.tmod n 7) = n % 7 := by rw [Int.tmod_eq_emod_of_nonneg h0, w64 (by omega) (by omega)]
  have e3 : wrap64 (Int.tdiv (n % 5) 3) = n % 5 / 3 := by rw [Int.tdiv_eq_ediv_of_nonneg (by omega), w64 (by omega) (by omega)]
  rw [e1, e2, e3]
  unfold stp at hb ⊢
  rw [w64 (x := n % 5 / 3 * (n % 7)) (by omega) (by omega), w64 (x := 1 + n % 5 / 3 * (n % 7)) (by omega) (by omega), w64 (by omega) (by omega)]
theorem ris_loop (l cs : List Int) (hl : ∀ x ∈ l, 0 ≤ x ∧ x ≤ 255) (hlen : l.length ≤ 1000) (hc : cs.length ≤ 4611686018427387904) (d : Nat) : ∀ (k n : Nat) (bs : List S36) (ids : List Int) (a : Int), l.length - n = d → n ≤ l.length → -40000 - 7 * n ≤ a → a ≤ 40000 + 7 * n → bs.length ≤ n → ids.length ≤ n → d < k →
    pluviallaw06_Rising.l0 k cs bs ids a l (l.length : Int) (n : Int) = some (bs ++ risB a n (l.drop n) cs, ids ++ risIds a (l.drop n)) := by
  induction d with
  | zero =>
    intro k n bs ids a hd hn ha0 ha1 hb hi hk
    obtain ⟨k, rfl⟩ : ∃ m, k = m + 1 := ⟨k - 1, by omega⟩
    simp only [pluviallaw06_Rising.l0]
    rw [if_neg (by omega), List.drop_eq_nil_of_le (by omega)]
    simp [risB, risIds]
  | succ d ih =>
    intro k n bs ids a hd hn ha0 ha1 hb hi hk
    obtain ⟨k, rfl⟩ : ∃ m, k = m + 1 := ⟨k - 1, by omega⟩
    have hlt : n < l.length := by omega
    have hx := hl _ (List.getElem_mem hlt)
    have hs := stp_bound hx.1
    have er : rd l (n : Int) = l[n] := by unfold rd; simp [hlt]
    simp only [pluviallaw06_Rising.l0]
    rw [if_pos (by omega), if_pos (by omega), if_pos (by omega), er, stp_val hx.1 hx.2 (by omega), w64 (x := (n : Int) + 1) (by omega) (by omega), List.drop_eq_getElem_cons hlt]
    simp only [risB, risIds]
    by_cases c : (n : Int) < (cs.length : Int)
    · have ec : rd cs (n : Int) = cs.getD n 0 := by unfold rd; simp
      rw [if_pos c, if_pos (by omega), if_pos (by omega), ec]
      have := ih k (n + 1) (bs ++ [⟨a + stp l[n], cs.getD n 0⟩]) (ids ++ [a + stp l[n]]) (a + stp l[n]) (by omega) (by omega) (by omega) (by omega) (by simp; omega) (by simp; omega) (by omega)
      simpa using this
    · have ec : cs.getD n 0 = 0 := by rw [List.getD_eq_getElem?_getD, List.getElem?_eq_none (by omega)]; rfl
      rw [if_neg c, if_pos (by omega), if_pos (by omega), ec]
      have := ih k (n + 1) (bs ++ [⟨a + stp l[n], 0⟩]) (ids ++ [a + stp l[n]]) (a + stp l[n]) (by omega) (by omega) (by omega) (by omega) (by simp; omega) (by simp; omega) (by omega)
      simpa using this
theorem ris_val (l cs : List Int) (a : Int) (hl : ∀ x ∈ l, 0 ≤ x ∧ x ≤ 255) (hlen : l.length ≤ 1000) (hc : cs.length ≤ 4611686018427387904) (ha : -32768 ≤ a ∧ a ≤ 32767) {k : Nat} (hk : l.length < k) :
    pluviallaw06_Rising.f k l a cs = some (risB a 0 l cs, risIds a l) := by
  unfold pluviallaw06_Rising.f
  rw [w64 (x := a) (by omega) (by omega)]
  have := ris_loop l cs hl hlen hc l.length k 0 [] [] a (by omega) (by omega) (by omega) (by omega) (by simp) (by simp) hk
  simpa using this
theorem risB_ids (l cs : List Int) : ∀ (a : Int) (i : Nat), (risB a i l cs).map S36.f0 = risIds a l := by
  induction l with
  | nil => intro a i; rfl
  | cons n r ih => intro a i; simp [risB, risIds, ih]
theorem risIds_len (l : List Int) : ∀ a : Int, (risIds a l).length = l.length := by
  induction l with
  | nil => intro a; rfl
  | cons n r ih => intro a; simp [risIds, ih]
theorem risIds_rise (l : List Int) (hl : ∀ x ∈ l, 0 ≤ x ∧ x ≤ 255) : ∀ (a hi : Int), a + 7 * l.length ≤ hi → Rise a hi (risIds a l) := by
  induction l with
  | nil => intro a hi _; trivial
  | cons n r ih =>
    intro a hi h
    have hs := stp_bound (hl n (by simp)).1
    simp only [List.length_cons] at h
    exact ⟨by omega, by omega, ih (fun x hx => hl x (List.mem_cons_of_mem _ hx)) _ hi (by omega)⟩
theorem risB_mem {l cs : List Int} {a hi : Int} {i : Nat} (h : Rise a hi (risIds a l)) : ∀ x ∈ risB a i l cs, a < x.f0 ∧ x.f0 ≤ hi := by
  intro x hx
  have : x.f0 ∈ risIds a l := by rw [← risB_ids l cs a i]; exact List.mem_map_of_mem hx
  exact h.mem _ this
theorem awake_any {k : Nat} (hk : 10 ≤ k) : pluviallaw06_awake.f k = some true := at_rounds pluviallaw06_awake.mono hk (show pluviallaw06_awake.f 10 = some true by decide +kernel)
/-- the layout of the rising buckets, and its indices -/
theorem of_ris {l cs : List Int} {a : Int} (hl : ∀ x ∈ l, 0 ≤ x ∧ x ≤ 255) (hlen : l.length ≤ 1000) (ha : -32768 ≤ a ∧ a ≤ 32767) {k : Nat} (hk : l.length < k) : span_Of.f k (risB a 0 l cs) = some (ofV (risIds a l)) := by
  have hr := risIds_rise l hl a 1000000 (by omega)
  have e := congrArg List.length (risB_ids l cs a 0)
  rw [List.length_map, risIds_len] at e
  rw [of_val _ (fun x hx => by have := risB_mem hr x hx; omega) (by omega) (by omega), risB_ids]
def breaks : Int → List Int → Nat
  | _, [] => 0
  | p, c :: r => (if p + 1 = c then 0 else 1) + breaks c r
theorem ofGo_len (r : List Int) : ∀ (p : Int) (sp : List S38), sp ≠ [] → (ofGo p sp r).length = sp.length + breaks p r := by
  induction r with
  | nil => intro p sp _; simp [ofGo, breaks]
  | cons c r ih => intro p sp h; simp only [ofGo, breaks]; rw [ih c _ (stepS_ne h), stepS_len p c sp h]; omega
theorem ofGo_shift (b : Int) (r : List Int) : ∀ (p : Int) (sp : List S38), ofGo (p + b) sp (r.map (· + b)) = ofGo p sp r := by
  induction r with
  | nil => intro p sp; rfl
  | cons c r ih =>
    intro p sp
    have e : stepS (p + b) sp (c + b) = stepS p sp c := by
      unfold stepS
      by_cases h : p + 1 = c
      · rw [if_pos h, if_pos (by omega)]
      · rw [if_neg h, if_neg (by omega), show c + b - (p + b) - 1 = c - p - 1 from by omega]
    simp only [List.map_cons, ofGo]
    rw [e, ih]
theorem ofV_shift (b : Int) (l : List Int) : (ofV (l.map (· + b))).2 = (ofV l).2 ∧ (l ≠ [] → (ofV (l.map (· + b))).1 = (ofV l).1 + b) := by
  cases l with
  | nil => simp [ofV]
  | cons c r => exact ⟨ofGo_shift b r c _, fun _ => rfl⟩
def mv (b c : Int) : S36 := ⟨c + b, 0⟩
theorem gaps_loop (x0 ids : List Int) (b F : Int) (S : List S38) (hb : -32768 ≤ b ∧ b ≤ 32767) (hi : ∀ x ∈ ids, -1000000 ≤ x ∧ x ≤ 1000000) (hm : ids.length ≤ 1000000) (d : Nat) : ∀ (k n R : Nat) (M : List S36) (p : Int), ids.length - n = d → 1 ≤ n → n ≤ ids.length → p = ids.getD (n - 1) 0 → d ≤ k → R ≤ n → M.length ≤ n →
    pluviallaw06_SpanGaps.l0 k x0 b ids (R : Int) M ids (ids.length : Int) (n : Int) F S = pluviallaw06_SpanGaps.l0 (k - d) x0 b ids ((R + breaks p (ids.drop n) : Nat) : Int) (M ++ (ids.drop n).map (mv b)) ids (ids.length : Int) (ids.length : Int) F S := by
  induction d with
  | zero =>
    intro k n R M p hd hn hn2 hp hk hR hM
    have : n = ids.length := by omega
    rw [List.drop_eq_nil_of_le (by omega), this]
    simp [breaks]
  | succ d ih =>
    intro k n R M p hd hn hn2 hp hk hR hM
    obtain ⟨k, rfl⟩ : ∃ m, k = m + 1 := ⟨k - 1, by omega⟩
    have hlt : n < ids.length := by omega
    have hlt' : n - 1 < ids.length := by omega
    have hx := hi _ (List.getElem_mem hlt)
    have hx' := hi _ (List.getElem_mem hlt')
    have ep : p = ids[n - 1] := by rw [hp]; simp [hlt']
    have er : rd ids (n : Int) = ids[n] := by unfold rd; simp [hlt]
    have er' : rd ids ((n : Int) - 1) = p := by unfold rd; rw [show ((n : Int) - 1).toNat = n - 1 from by omega, hp]
    rw [← ep] at hx'
    rw [List.drop_eq_getElem_cons hlt, show k + 1 - (d + 1) = k - d from by omega]
    conv => lhs; simp only [pluviallaw06_SpanGaps.l0]
    rw [if_pos (by omega), if_pos (by omega), if_pos (by omega), if_neg (by omega), w64 (x := (n : Int) - 1) (by omega) (by omega), if_pos (by omega), if_pos (by omega), er, er', w64 (x := p + 1) (by omega) (by omega), w64 (x := (n : Int) + 1) (by omega) (by omega), w64 (x := b) (by omega) (by omega), w64 (x := ids[n] + b) (by omega) (by omega)]
    simp only [breaks]
    by_cases c : p + 1 = ids[n]
    · rw [if_pos c, if_pos (by omega)]
      have := ih k (n + 1) R (M ++ [mv b ids[n]]) ids[n] (by omega) (by omega) (by omega) (by simp [hlt]) (by omega) (by omega) (by simp; omega)
      rw [show ((n : Int) + 1) = ((n + 1 : Nat) : Int) from by omega]
      refine this.trans ?_
      rw [if_pos c, Nat.zero_add]
      simp only [List.map_cons, List.append_assoc, List.singleton_append]
    · rw [if_neg c, if_pos (by omega), w64 (x := (R : Int) + 1) (by omega) (by omega)]
      have := ih k (n + 1) (R + 1) (M ++ [mv b ids[n]]) ids[n] (by omega) (by omega) (by omega) (by simp [hlt]) (by omega) (by omega) (by simp; omega)
      rw [show ((n : Int) + 1) = ((n + 1 : Nat) : Int) from by omega, show ((R : Int) + 1) = ((R + 1 : Nat) : Int) from by omega]
      refine this.trans ?_
      rw [if_neg c, Nat.add_assoc]
      simp only [List.map_cons, List.append_assoc, List.singleton_append]
theorem gaps_l1 (x0 : List Int) (b F G : Int) (S : List S38) (hS : S.length ≤ 1000000) (hfin : ((x0.length : Int) = 0 ∨ G = wrap64 (F + wrap64 b))) (d : Nat) : ∀ (k n : Nat), S.length - n = d → n ≤ S.length → d + 11 < k →
    pluviallaw06_SpanGaps.l1 k x0 b (S.length : Int) (n : Int) F S G S = some true := by
  induction d with
  | zero =>
    intro k n hd hn hk
    obtain ⟨k, rfl⟩ : ∃ m, k = m + 1 := ⟨k - 1, by omega⟩
    simp only [pluviallaw06_SpanGaps.l1]
    rw [if_neg (by omega), awake_any (by omega), Option.bind_some, if_pos rfl]
    by_cases h : (x0.length : Int) = 0
    · rw [if_pos h]
    · rw [if_neg h]
      rcases hfin with h' | h'
      · exact absurd h' h
      · rw [h']; simp
  | succ d ih =>
    intro k n hd hn hk
    obtain ⟨k, rfl⟩ : ∃ m, k = m + 1 := ⟨k - 1, by omega⟩
    simp only [pluviallaw06_SpanGaps.l1]
    rw [if_pos (by omega), if_pos (by omega), if_pos (by omega), if_pos (by omega), w64 (x := (n : Int) + 1) (by omega) (by omega)]
    simp only [beq_self_eq_true, Bool.not_true, Bool.or_false, Bool.false_eq_true, if_false]
    exact ih k (n + 1) (by omega) (by omega) (by omega)
theorem main : pluviallaw06_SpanGaps.Pure := by
  intro l a b _ _ hl ha hb
  have ha' := wf_i16 ha
  have hb' := wf_i16 hb
  have hl' : ∀ x ∈ l, 0 ≤ x ∧ x ≤ 255 := fun x hx => wf_u8 (hl x hx)
  refine ⟨2000, ?_⟩
  unfold pluviallaw06_SpanGaps.f
  by_cases c : (l.length : Int) > 200
  · rw [if_pos c, awake_any (by omega)]; rfl
  · rw [if_neg c, ris_val l [] a hl' (by omega) (by simp) ha' (by omega), Option.bind_some]
    simp only []
    rw [of_ris hl' (by omega) ha' (by omega), Option.bind_some]
    have hr := risIds_rise l hl' a 1000000 (by omega)
    have hlen := risIds_len l a
    have hri := hr.mem
    obtain ⟨ids, hids⟩ : ∃ ids, risIds a l = ids := ⟨_, rfl⟩
    rw [hids] at hr hlen hri ⊢
    have hr2 := risIds_rise l hl' a 1000000000 (by omega)
    rw [hids] at hr2
    rw [ix_of ids hr2 (by omega) (by omega) (by omega), Option.bind_some]
    have hg := ofV_good (B := 1099511627776) (lo := a) ids (by
      have := risIds_rise l hl' a (1099511627776 - 1) (by omega)
      rw [hids] at this; exact this) (by omega) (by omega)
    have hS := hg.2.2.2
    have hsh := ofV_shift b ids
    -- the end: both layouts' runs are as many, and the same
    have hend : ∀ (k R : Nat) (M : List S36), 1000 ≤ k → M = ids.map (mv b) → R = (ofV ids).2.length →
        pluviallaw06_SpanGaps.l0 k l b ids (R : Int) M ids (ids.length : Int) (ids.length : Int) (ofV ids).1 (ofV ids).2 = some true := by
      intro k R M hk hM hR
      obtain ⟨k, rfl⟩ : ∃ m, k = m + 2 := ⟨k - 2, by omega⟩
      have em : M.map S36.f0 = ids.map (· + b) := by rw [hM, List.map_map]; rfl
      have eb : ∀ x ∈ M, -1099511627776 ≤ x.f0 ∧ x.f0 ≤ 1099511627776 := by
        intro x hx
        rw [hM, List.mem_map] at hx
        obtain ⟨y, hy, rfl⟩ := hx
        have := hri y hy
        simp only [mv]; omega
      have el : M.length = ids.length := by rw [hM, List.length_map]
      simp only [pluviallaw06_SpanGaps.l0]
      rw [if_neg (by omega), of_val M eb (by omega) (by omega), em, Option.bind_some]
      rw [hsh.1, hR, if_pos rfl, if_pos rfl, hlen, bne_self_eq_false]
      simp only [pluviallaw06_SpanGaps.j1, Bool.false_eq_true, if_false]
      refine gaps_l1 l b (ofV ids).1 _ (ofV ids).2 (by omega) ?_ (ofV ids).2.length k 0 (by omega) (by omega) (by omega)
      by_cases hn : ids = []
      · left; rw [hn] at hlen; simp at hlen; omega
      · right
        rw [hsh.2 hn]
        have hm : (ofV ids).1 ∈ ids := by
          cases ids with
          | nil => exact absurd rfl hn
          | cons c r => simp [ofV]
        have := hri _ hm
        rw [w64 (x := b) (by omega) (by omega), w64 (by omega) (by omega)]
    match ids, hids, hr, hlen, hri, hr2, hg, hS, hsh, hend with
    | [], hids, hr, hlen, hri, hr2, hg, hS, hsh, hend => exact hend 2000 0 [] (by omega) rfl rfl
    | c0 :: r, hids, hr, hlen, hri, hr2, hg, hS, hsh, hend =>
      have hx := hri c0 (by simp)
      simp only [List.length_cons] at hlen
      have h0 : ∀ k : Nat, pluviallaw06_SpanGaps.l0 (k + 1) l b (c0 :: r) 0 [] (c0 :: r) ((c0 :: r).length : Int) 0 (ofV (c0 :: r)).1 (ofV (c0 :: r)).2 = pluviallaw06_SpanGaps.l0 k l b (c0 :: r) ((1 : Nat) : Int) [mv b c0] (c0 :: r) ((c0 :: r).length : Int) ((1 : Nat) : Int) (ofV (c0 :: r)).1 (ofV (c0 :: r)).2 := by
        intro k
        conv => lhs; simp only [pluviallaw06_SpanGaps.l0]
        have hpos : (0 : Int) < ((c0 :: r).length : Int) := by simp only [List.length_cons]; omega
        rw [if_pos hpos, if_pos (Int.le_refl 0), if_pos hpos]
        simp only [if_true]
        rw [if_pos (show ([] : List S36).length < 8796093022208 from by decide), show rd (c0 :: r) 0 = c0 from rfl, show wrap64 (0 + 1) = 1 from by decide +kernel, w64 (x := b) (by omega) (by omega), w64 (x := c0 + b) (by omega) (by omega)]
        rfl
      rw [h0 1999, gaps_loop l (c0 :: r) b _ _ hb' (fun x hx => by have := hri x hx; omega) (by simp; omega) r.length 1999 1 1 [mv b c0] c0 (by simp) (by omega) (by simp) rfl (by omega) (by omega) (by simp)]
      refine hend (1999 - r.length) _ _ (by omega) (by simp) ?_
      simp only [ofV]
      rw [ofGo_len r c0 [⟨0, 1⟩] (by simp)]
      simp
end Go.Proofs.Ytpdhcgicnhgfoaa.Pure.LSpanGaps
namespace Go.Proofs.Ytpdhcgicnhgfoaa.Pure
theorem SpanGaps : Go.Proofs.Ytpdhcgicnhgfoaa.QSpanGaps.pluviallaw06_SpanGaps.Pure := LSpanGaps.main
end Go.Proofs.Ytpdhcgicnhgfoaa.Pure
