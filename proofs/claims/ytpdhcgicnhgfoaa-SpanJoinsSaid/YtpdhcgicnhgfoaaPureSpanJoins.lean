/- What the rest of SpanJoins computes is true for every input: which layout has which, what both together are, and what buckets have by a layout. Its conditions: at most 200 bytes in each list, numbers of their kinds. -/
import Derived.Test.YtpdhcgicnhgfoaaQJoinD
import Derived.Test.YtpdhcgicnhgfoaaMth
namespace Go.Proofs.Ytpdhcgicnhgfoaa.Pure.LSpanJoins
open Go.RowKit Go.Proofs.Ytpdhcgicnhgfoaa.QSpanJoins Go.Proofs.YtpdhcgicnhgfoaaW.PrintWords Go.Proofs.YtpdhcgicnhgfoaaW.PrintLast Go.Proofs.YtpdhcgicnhgfoaaW.PrintMore Mth
/-- an index list's runs, as the loop makes them -/
def incLast (sp : List S38) : List S38 := sp.set (sp.length - 1) ⟨(sp.getD (sp.length - 1) z38).f0, (sp.getD (sp.length - 1) z38).f1 + 1⟩
def stepS (p : Int) (sp : List S38) (c : Int) : List S38 := if p + 1 = c then incLast sp else sp ++ [⟨c - p - 1, 1⟩]
def ofGo : Int → List S38 → List Int → List S38
  | _, sp, [] => sp
  | p, sp, c :: r => ofGo c (stepS p sp c) r
def ofV : List Int → Int × List S38
  | [] => (0, [])
  | c :: r => (c, ofGo c [⟨0, 1⟩] r)
def rng (a : Int) : Nat → List Int
  | 0 => []
  | n + 1 => a :: rng (a + 1) n
def expand (a : Int) : List S38 → List Int
  | [] => []
  | s :: r => rng (a + s.f0) s.f1.toNat ++ expand (a + s.f0 + s.f1) r
def endOf (a : Int) : List S38 → Int
  | [] => a
  | s :: r => endOf (a + s.f0 + s.f1) r
theorem incLast_snoc (l : List S38) (s : S38) : incLast (l ++ [s]) = l ++ [⟨s.f0, s.f1 + 1⟩] := by
  unfold incLast
  have e : (l ++ [s]).length - 1 = l.length := by simp
  rw [e]
  simp [List.getD_eq_getElem?_getD]
theorem snoc_of {α : Type} {l : List α} (h : l ≠ []) : ∃ i s, l = i ++ [s] := ⟨l.dropLast, l.getLast h, (List.dropLast_concat_getLast h).symm⟩
theorem stepS_ne {p c : Int} {sp : List S38} (h : sp ≠ []) : stepS p sp c ≠ [] := by
  obtain ⟨i, s, rfl⟩ := snoc_of h
  unfold stepS
  split
  · rw [incLast_snoc]; simp
  · simp
theorem stepS_len (p c : Int) (sp : List S38) (h : sp ≠ []) : (stepS p sp c).length = sp.length + if p + 1 = c then 0 else 1 := by
  obtain ⟨i, s, rfl⟩ := snoc_of h
  unfold stepS
  split
  · rw [incLast_snoc]; simp
  · simp
/-- each length is at most so much -/
def LenLe (n : Int) (sp : List S38) : Prop := ∀ s ∈ sp, 1 ≤ s.f1 ∧ s.f1 ≤ n
theorem LenLe.mono {n m : Int} {sp : List S38} (h : LenLe n sp) (hm : n ≤ m) : LenLe m sp := fun s hs => ⟨(h s hs).1, Int.le_trans (h s hs).2 hm⟩
theorem stepS_le {n p c : Int} {sp : List S38} (h : sp ≠ []) (hl : LenLe n sp) (hn : 0 ≤ n) : LenLe (n + 1) (stepS p sp c) := by
  obtain ⟨i, s, rfl⟩ := snoc_of h
  unfold stepS
  split
  · rw [incLast_snoc]
    intro t ht
    rw [List.mem_append] at ht
    rcases ht with ht | ht
    · have := hl t (by simp [ht]); omega
    · have := hl s (by simp)
      rw [List.mem_singleton] at ht
      subst ht; simp; omega
  · intro t ht
    rw [List.mem_append] at ht
    rcases ht with ht | ht
    · have := hl t ht; omega
    · rw [List.mem_singleton] at ht
      subst ht; simp; omega
theorem of_loop (xs : List S36) (hb : ∀ x ∈ xs, -1099511627776 ≤ x.f0 ∧ x.f0 ≤ 1099511627776) (hm : xs.length ≤ 1000000000) (first : Int) (d : Nat) : ∀ (k n : Nat) (p : Int) (sp : List S38), sp ≠ [] → LenLe n sp → sp.length ≤ n → xs.length - n = d → 1 ≤ n → n ≤ xs.length → p = (xs.getD (n - 1) z36).f0 → d < k →
    span_Of.l0 k xs xs (xs.length : Int) (n : Int) first sp = some (first, ofGo p sp ((xs.map S36.f0).drop n)) := by
  induction d with
  | zero =>
    intro k n p sp hne hl hsl hd hn hn2 hp hk
    obtain ⟨k, rfl⟩ : ∃ m, k = m + 1 := ⟨k - 1, by omega⟩
    simp only [span_Of.l0]
    rw [if_neg (by omega), List.drop_eq_nil_of_le (by simp; omega)]; rfl
  | succ d ih =>
    intro k n p sp hne hl hsl hd hn hn2 hp hk
    obtain ⟨k, rfl⟩ : ∃ m, k = m + 1 := ⟨k - 1, by omega⟩
    have hlt : n < xs.length := by omega
    have hx := hb _ (List.getElem_mem hlt)
    have hlt' : n - 1 < xs.length := by omega
    have hx' := hb _ (List.getElem_mem hlt')
    have ep : p = xs[n - 1].f0 := by rw [hp]; simp [hlt']
    have er : rd_T36 xs (n : Int) = xs[n] := by unfold rd_T36; simp [hlt]
    have er' : rd_T36 xs ((n : Int) - 1) = xs[n - 1] := by unfold rd_T36; rw [show ((n : Int) - 1).toNat = n - 1 from by omega]; simp [hlt']
    simp only [span_Of.l0]
    rw [if_pos (by omega), if_pos (by omega), if_pos (by omega), if_neg (by omega), w64 (x := (n : Int) - 1) (by omega) (by omega), if_pos (by omega), if_pos (by omega), er, er', ← ep, w64 (x := (n : Int) + 1) (by omega) (by omega)]
    rw [← ep] at hx'
    rw [w64 (x := p + 1) (by omega) (by omega), w64 (x := xs[n].f0 - p) (by omega) (by omega), w64 (x := xs[n].f0 - p - 1) (by omega) (by omega)]
    have edrop : (xs.map S36.f0).drop n = xs[n].f0 :: (xs.map S36.f0).drop (n + 1) := by
      rw [List.drop_eq_getElem_cons (by simp; omega)]; simp
    rw [edrop]
    simp only [ofGo]
    have hne' := stepS_ne (p := p) (c := xs[n].f0) hne
    have hle' := stepS_le (p := p) (c := xs[n].f0) hne hl (by omega)
    have hlen' := stepS_len p xs[n].f0 sp hne
    have hgo := ih k (n + 1) xs[n].f0 (stepS p sp xs[n].f0) hne' (by exact_mod_cast hle') (by rw [hlen']; split <;> omega) (by omega) (by omega) (by omega) (by simp [hlt]) (by omega)
    have hpos : 0 < sp.length := List.length_pos_iff.2 hne
    by_cases c : p + 1 = xs[n].f0
    · rw [if_pos c, w64 (x := (sp.length : Int) - 1) (by omega) (by omega), if_pos (by omega), if_pos (by omega)]
      have e1 : ((sp.length : Int) - 1).toNat = sp.length - 1 := by omega
      have e2 : rd_T38 sp ((sp.length : Int) - 1) = sp.getD (sp.length - 1) z38 := by unfold rd_T38; rw [e1]
      have e3 : sp.getD (sp.length - 1) z38 ∈ sp := by
        rw [List.getD_eq_getElem?_getD, List.getElem?_eq_getElem (by omega), Option.getD_some]; exact List.getElem_mem _
      have e4 := hl _ e3
      rw [e1, e2, w64 (x := (sp.getD (sp.length - 1) z38).f1 + 1) (by omega) (by omega)]
      have e5 : stepS p sp xs[n].f0 = sp.set (sp.length - 1) ⟨(sp.getD (sp.length - 1) z38).f0, (sp.getD (sp.length - 1) z38).f1 + 1⟩ := by
        unfold stepS; rw [if_pos c]; rfl
      rw [← e5]; exact hgo
    · rw [if_neg c, if_pos (by omega)]
      have e5 : stepS p sp xs[n].f0 = sp ++ [⟨xs[n].f0 - p - 1, 1⟩] := by unfold stepS; rw [if_neg c]
      rw [← e5]; exact hgo
theorem of_val (xs : List S36) (hb : ∀ x ∈ xs, -1099511627776 ≤ x.f0 ∧ x.f0 ≤ 1099511627776) (hm : xs.length ≤ 1000000000) {k : Nat} (hk : xs.length < k) :
    span_Of.f k xs = some (ofV (xs.map S36.f0)) := by
  obtain ⟨k, rfl⟩ : ∃ m, k = m + 1 := ⟨k - 1, by omega⟩
  unfold span_Of.f
  simp only [span_Of.l0]
  match xs, hb, hm, hk with
  | [], _, _, _ => rw [if_neg (by simp)]; rfl
  | x :: r, hb, hm, hk =>
    simp only [List.length_cons] at hm hk
    rw [if_pos (by simp), if_pos (by omega), if_pos (by simp)]
    simp only [if_true]
    have hgo := of_loop (x :: r) hb (by simp; omega) x.f0 r.length k 1 x.f0 [⟨0, 1⟩] (by simp) (by intro s hs; rw [List.mem_singleton] at hs; subst hs; simp) (by simp) (by simp) (by omega) (by simp) rfl (by omega)
    rw [show wrap64 (0 + 1) = 1 from by decide +kernel]
    exact hgo
theorem expand_snoc (l : List S38) : ∀ (a : Int) (s : S38), expand a (l ++ [s]) = expand a l ++ rng (endOf a l + s.f0) s.f1.toNat := by
  induction l with
  | nil => intro a s; simp [expand, endOf]
  | cons t l ih => intro a s; simp only [List.cons_append, expand, endOf, ih, List.append_assoc]
theorem endOf_snoc (l : List S38) : ∀ (a : Int) (s : S38), endOf a (l ++ [s]) = endOf a l + s.f0 + s.f1 := by
  induction l with
  | nil => intro a s; simp [endOf]
  | cons t l ih => intro a s; simp only [List.cons_append, endOf, ih]
theorem rng_snoc (n : Nat) : ∀ a : Int, rng a (n + 1) = rng a n ++ [a + n] := by
  induction n with
  | zero => intro a; simp [rng]
  | succ n ih =>
    intro a
    rw [show rng a (n + 1 + 1) = a :: rng (a + 1) (n + 1) from rfl, ih, show rng a (n + 1) = a :: rng (a + 1) n from rfl]
    simp; omega
theorem stepS_expand {p c first : Int} {sp : List S38} (hne : sp ≠ []) (hl : ∀ s ∈ sp, 1 ≤ s.f1) (he : endOf first sp = p + 1) :
    expand first (stepS p sp c) = expand first sp ++ [c] ∧ endOf first (stepS p sp c) = c + 1 := by
  obtain ⟨i, s, rfl⟩ := snoc_of hne
  have h1 := hl s (by simp)
  unfold stepS
  by_cases h : p + 1 = c
  · rw [if_pos h, incLast_snoc, expand_snoc, expand_snoc, endOf_snoc]
    rw [endOf_snoc] at he
    refine ⟨?_, by simp only; omega⟩
    simp only
    rw [show (s.f1 + 1).toNat = s.f1.toNat + 1 from by omega, rng_snoc, List.append_assoc]
    congr 3; omega
  · rw [if_neg h, expand_snoc (i ++ [s]), endOf_snoc (i ++ [s]), he]
    refine ⟨?_, by simp only; omega⟩
    simp only
    rw [show p + 1 + (c - p - 1) = c from by omega]; rfl
theorem ofGo_expand (r : List Int) : ∀ (p first : Int) (sp : List S38), sp ≠ [] → (∀ s ∈ sp, 1 ≤ s.f1) → endOf first sp = p + 1 → expand first (ofGo p sp r) = expand first sp ++ r ∧ (∀ s ∈ ofGo p sp r, 1 ≤ s.f1) ∧ ofGo p sp r ≠ [] := by
  induction r with
  | nil => intro p first sp hne hl he; simp [ofGo]; exact ⟨hl, hne⟩
  | cons c r ih =>
    intro p first sp hne hl he
    have h := stepS_expand (c := c) hne hl he
    have hl' : ∀ s ∈ stepS p sp c, 1 ≤ s.f1 := by
      obtain ⟨i, s, rfl⟩ := snoc_of hne
      have h1 := hl s (by simp)
      unfold stepS
      split
      · rw [incLast_snoc]
        intro t ht
        rw [List.mem_append] at ht
        rcases ht with ht | ht
        · exact hl t (by simp [ht])
        · rw [List.mem_singleton] at ht; subst ht; simp only; omega
      · intro t ht
        rw [List.mem_append] at ht
        rcases ht with ht | ht
        · exact hl t ht
        · rw [List.mem_singleton] at ht; subst ht; simp only; omega
    have := ih c first (stepS p sp c) (stepS_ne hne) hl' h.2
    simp only [ofGo]
    rw [this.1, h.1]
    exact ⟨by simp, this.2⟩
/-- a layout's indices are those that it was made of -/
theorem ofV_expand (l : List Int) : expand (ofV l).1 (ofV l).2 = l ∧ (∀ s ∈ (ofV l).2, 1 ≤ s.f1) := by
  cases l with
  | nil => simp [ofV, expand]
  | cons c r =>
    have := ofGo_expand r c c [⟨0, 1⟩] (by simp) (by intro s hs; rw [List.mem_singleton] at hs; subst hs; simp) (by simp [endOf])
    simp only [ofV]
    rw [this.1]
    refine ⟨?_, this.2.1⟩
    simp [expand, rng]
theorem rng_len (n : Nat) : ∀ a : Int, (rng a n).length = n := by
  induction n with
  | zero => intro a; rfl
  | succ n ih => intro a; simp [rng, ih]
/-- the rounds that a layout's indices take -/
def rounds : List S38 → Nat
  | [] => 1
  | s :: r => s.f1.toNat + 2 + rounds r
/-- every place that the walk over a layout comes to is a small number -/
def Small (B : Int) (a : Int) : List S38 → Prop
  | [] => -B ≤ a ∧ a ≤ B
  | s :: r => (-B ≤ a ∧ a ≤ B) ∧ (-B ≤ a + s.f0 ∧ a + s.f0 ≤ B) ∧ 0 ≤ s.f1 ∧ s.f1 ≤ B ∧ Small B (a + s.f0 + s.f1) r
theorem Small.head {B a : Int} {l : List S38} (h : Small B a l) : -B ≤ a ∧ a ≤ B := by
  cases l with
  | nil => exact h
  | cons s r => exact h.1
theorem ix_l1 (sp : List S38) (i n : Int) (hn : n ≤ 4611686018427387904) (d : Nat) : ∀ (k : Nat) (acc : List Int) (a j : Int), n - j = d → 0 ≤ j → -2305843009213693952 ≤ a → a + d ≤ 2305843009213693952 → acc.length + d < 17592186044416 → d < k →
    span_Indices.l1 k acc a sp (sp.length : Int) i n j = span_Indices.l0 (k - d - 1) (acc ++ rng a d) (a + d) sp (sp.length : Int) (wrap64 (i + 1)) := by
  induction d with
  | zero =>
    intro k acc a j hd hj ha ha2 hl hk
    obtain ⟨k, rfl⟩ : ∃ m, k = m + 1 := ⟨k - 1, by omega⟩
    simp only [span_Indices.l1]
    rw [if_neg (by omega)]
    simp [rng]
  | succ d ih =>
    intro k acc a j hd hj ha ha2 hl hk
    obtain ⟨k, rfl⟩ : ∃ m, k = m + 1 := ⟨k - 1, by omega⟩
    simp only [span_Indices.l1]
    rw [if_pos (by omega), if_pos (by omega), w64 (x := a + 1) (by omega) (by omega), w64 (x := j + 1) (by omega) (by omega)]
    rw [ih k (acc ++ [a]) (a + 1) (j + 1) (by omega) (by omega) (by omega) (by omega) (by simp; omega) (by omega)]
    rw [show rng a (d + 1) = a :: rng (a + 1) d from rfl, List.append_assoc, List.singleton_append, show a + 1 + (d : Int) = a + ((d + 1 : Nat) : Int) from by omega, show k + 1 - (d + 1) - 1 = k - d - 1 from by omega]
theorem ix_l0 (sp : List S38) (hm : sp.length ≤ 1000000000) (d : Nat) : ∀ (k n : Nat) (acc : List Int) (a : Int), sp.length - n = d → n ≤ sp.length → Small 1099511627776 a (sp.drop n) → acc.length + (expand a (sp.drop n)).length < 17592186044416 → rounds (sp.drop n) ≤ k →
    span_Indices.l0 k acc a sp (sp.length : Int) (n : Int) = some (acc ++ expand a (sp.drop n)) := by
  induction d with
  | zero =>
    intro k n acc a hd hn hs hl hk
    have hnil : sp.drop n = [] := List.drop_eq_nil_of_le (by omega)
    rw [hnil] at hk ⊢
    simp only [rounds] at hk
    obtain ⟨k, rfl⟩ : ∃ m, k = m + 1 := ⟨k - 1, by omega⟩
    simp only [span_Indices.l0]
    rw [if_neg (by omega)]; simp [expand]
  | succ d ih =>
    intro k n acc a hd hn hs hl hk
    have hlt : n < sp.length := by omega
    have ed : sp.drop n = sp[n] :: sp.drop (n + 1) := List.drop_eq_getElem_cons hlt
    rw [ed] at hs hl hk ⊢
    obtain ⟨b1, b2, b3, b4, hs'⟩ := hs
    simp only [rounds] at hk
    obtain ⟨k, rfl⟩ : ∃ m, k = m + 1 := ⟨k - 1, by omega⟩
    have er : rd_T38 sp (n : Int) = sp[n] := by unfold rd_T38; simp [hlt]
    have hh := hs'.head
    simp only [expand, List.length_append, rng_len] at hl
    simp only [span_Indices.l0]
    rw [if_pos (by omega), if_pos (by omega), if_pos (by omega), er, w64 (x := a + sp[n].f0) (by omega) (by omega)]
    rw [ix_l1 sp (n : Int) sp[n].f1 (by omega) sp[n].f1.toNat k acc (a + sp[n].f0) 0 (by omega) (by omega) (by omega) (by omega) (by omega) (by omega)]
    rw [w64 (x := (n : Int) + 1) (by omega) (by omega)]
    have := ih (k - sp[n].f1.toNat - 1) (n + 1) (acc ++ rng (a + sp[n].f0) sp[n].f1.toNat) (a + sp[n].f0 + sp[n].f1) (by omega) (by omega) hs' (by simp [rng_len]; omega) (by omega)
    rw [show a + sp[n].f0 + (sp[n].f1.toNat : Int) = a + sp[n].f0 + sp[n].f1 from by omega]
    simp only [expand]
    rw [← List.append_assoc]
    exact this
theorem ix_val (a : Int) (sp : List S38) (hm : sp.length ≤ 1000000000) (hs : Small 1099511627776 a sp) (hl : (expand a sp).length ≤ 1000000000) {k : Nat} (hk : rounds sp ≤ k) : span_Indices.f k a sp = some (expand a sp) := by
  unfold span_Indices.f
  have := ix_l0 sp hm sp.length k 0 [] a (by omega) (by omega) (by simpa using hs) (by simp; omega) (by simpa using hk)
  simpa using this
/-- a layout of small indices: its places are small -/
theorem small_snoc {B : Int} (l : List S38) : ∀ (a : Int) (s : S38), Small B a l → -B ≤ endOf a l + s.f0 → endOf a l + s.f0 ≤ B → 0 ≤ s.f1 → s.f1 ≤ B → -B ≤ endOf a l + s.f0 + s.f1 → endOf a l + s.f0 + s.f1 ≤ B → Small B a (l ++ [s]) := by
  induction l with
  | nil => intro a s h h1 h2 h3 h4 h5 h6; exact ⟨h, ⟨h1, h2⟩, h3, h4, ⟨h5, h6⟩⟩
  | cons t l ih => intro a s h h1 h2 h3 h4 h5 h6; exact ⟨h.1, h.2.1, h.2.2.1, h.2.2.2.1, ih _ s h.2.2.2.2 h1 h2 h3 h4 h5 h6⟩
theorem small_init {B : Int} (l : List S38) : ∀ (a : Int) (s : S38), Small B a (l ++ [s]) → Small B a l ∧ (-B ≤ endOf a l + s.f0 ∧ endOf a l + s.f0 ≤ B) := by
  induction l with
  | nil => intro a s h; exact ⟨h.1, h.2.1⟩
  | cons t l ih => intro a s h; have := ih _ s h.2.2.2.2; exact ⟨⟨h.1, h.2.1, h.2.2.1, h.2.2.2.1, this.1⟩, this.2⟩
/-- rising numbers within bounds -/
def Rise (lo hi : Int) : List Int → Prop
  | [] => True
  | c :: r => lo < c ∧ c ≤ hi ∧ Rise c hi r
theorem Rise.mono {lo lo' hi : Int} {l : List Int} (h : Rise lo hi l) (hle : lo' ≤ lo) : Rise lo' hi l := by
  cases l with
  | nil => trivial
  | cons c r => exact ⟨by have := h.1; omega, h.2.1, h.2.2⟩
theorem Rise.mem {hi : Int} {l : List Int} : ∀ {lo : Int}, Rise lo hi l → ∀ x ∈ l, lo < x ∧ x ≤ hi := by
  induction l with
  | nil => intro lo _ x hx; simp at hx
  | cons c r ih =>
    intro lo h x hx
    rw [List.mem_cons] at hx
    rcases hx with rfl | hx
    · exact ⟨h.1, h.2.1⟩
    · have := ih h.2.2 x hx
      exact ⟨by have := h.1; omega, this.2⟩
/-- each run's shape: one behind the other by one at least, the first one not -/
def Shape : List S38 → Prop
  | [] => True
  | s :: r => 1 ≤ s.f0 ∧ 1 ≤ s.f1 ∧ Shape r
theorem shape_snoc (l : List S38) (s : S38) : Shape (l ++ [s]) ↔ Shape l ∧ 1 ≤ s.f0 ∧ 1 ≤ s.f1 := by
  induction l with
  | nil => simp [Shape]
  | cons t l ih => simp only [List.cons_append, Shape, ih]; constructor <;> intro h <;> simp_all
def Canon : List S38 → Prop
  | [] => True
  | s :: r => s.f0 = 0 ∧ 1 ≤ s.f1 ∧ Shape r
theorem stepS_canon {p c : Int} {sp : List S38} (hne : sp ≠ []) (h : Canon sp) (hpc : p < c) : Canon (stepS p sp c) := by
  obtain ⟨i, s, rfl⟩ := snoc_of hne
  unfold stepS
  by_cases e : p + 1 = c
  · rw [if_pos e, incLast_snoc]
    cases i with
    | nil => simp only [List.nil_append, Canon] at h ⊢; exact ⟨h.1, by omega, h.2.2⟩
    | cons t i =>
      simp only [List.cons_append, Canon] at h ⊢
      rw [shape_snoc] at h ⊢
      exact ⟨h.1, h.2.1, h.2.2.1, h.2.2.2.1, by have := h.2.2.2.2; simp only; omega⟩
  · rw [if_neg e]
    cases i with
    | nil => simp only [List.nil_append, List.singleton_append, Canon, Shape] at h ⊢; exact ⟨h.1, h.2.1, by omega, by omega, trivial⟩
    | cons t i =>
      simp only [List.cons_append, Canon] at h ⊢
      rw [shape_snoc]
      exact ⟨h.1, h.2.1, h.2.2, by simp only; omega, by simp⟩
theorem stepS_small {B p c first : Int} {sp : List S38} (hne : sp ≠ []) (hl : ∀ s ∈ sp, 1 ≤ s.f1) (hs : Small B first sp) (he : endOf first sp = p + 1) (hpc : p < c) (hc : c + 1 ≤ B) (hp : -B ≤ p) (hf : ∀ s ∈ sp, s.f1 + 1 ≤ B) (hB : 1 ≤ B) : Small B first (stepS p sp c) := by
  obtain ⟨i, s, rfl⟩ := snoc_of hne
  have h1 := hl s (by simp)
  have h2 := hf s (by simp)
  have hi := small_init i first s hs
  rw [endOf_snoc] at he
  unfold stepS
  by_cases e : p + 1 = c
  · rw [if_pos e, incLast_snoc]
    exact small_snoc i first _ hi.1 (by simp only; omega) (by simp only; omega) (by simp only; omega) (by simp only; omega) (by simp only; omega) (by simp only; omega)
  · rw [if_neg e]
    refine small_snoc (i ++ [s]) first _ hs ?_ ?_ ?_ ?_ ?_ ?_ <;> (try rw [endOf_snoc]) <;> simp only <;> omega
theorem ofGo_good {B : Int} (hB : 1 ≤ B) (r : List Int) : ∀ (p first : Int) (sp : List S38) (n : Int), sp ≠ [] → Canon sp → (∀ s ∈ sp, 1 ≤ s.f1) → Small B first sp → endOf first sp = p + 1 → Rise p (B - 1) r → -B ≤ p → LenLe n sp → 0 ≤ n → n + r.length ≤ B - 1 →
    Canon (ofGo p sp r) ∧ Small B first (ofGo p sp r) ∧ LenLe (n + r.length) (ofGo p sp r) ∧ (ofGo p sp r).length ≤ sp.length + r.length := by
  induction r with
  | nil => intro p first sp n hne hc hl hs he hr hp hn hn0 hnb; simp [ofGo]; exact ⟨hc, hs, hn⟩
  | cons c r ih =>
    intro p first sp n hne hc hl hs he hr hp hn hn0 hnb
    simp only [List.length_cons] at hnb
    obtain ⟨r1, r2, r3⟩ := hr
    have h := stepS_expand (c := c) hne hl he
    have hl' := stepS_le (p := p) (c := c) hne hn hn0
    have := ih c first (stepS p sp c) (n + 1) (stepS_ne hne) (stepS_canon hne hc r1) (fun s hs => (hl' s hs).1)
      (stepS_small hne hl hs he r1 (by omega) hp (fun s hs => by have := (hn s hs).2; omega) hB) h.2 r3 (by omega) hl' (by omega) (by omega)
    have hlen := stepS_len p c sp hne
    simp only [ofGo, List.length_cons]
    refine ⟨this.1, this.2.1, ?_, ?_⟩
    · have e := this.2.2.1; rw [show n + ((r.length + 1 : Nat) : Int) = n + 1 + r.length from by omega]; exact e
    · have := this.2.2.2; rw [hlen] at this; split at this <;> omega
/-- of rising numbers: the layout is in form, its places are small -/
theorem ofV_good {B lo : Int} (l : List Int) (h : Rise lo (B - 1) l) (hlo : -B ≤ lo) (hB : (l.length : Int) + 1 ≤ B) : Canon (ofV l).2 ∧ Small B (ofV l).1 (ofV l).2 ∧ LenLe l.length (ofV l).2 ∧ (ofV l).2.length ≤ l.length := by
  cases l with
  | nil => simp only [List.length_nil] at hB; simp [ofV, Canon, Small, LenLe]; omega
  | cons c r =>
    simp only [List.length_cons] at hB
    obtain ⟨r1, r2, r3⟩ := h
    have := ofGo_good (B := B) (by omega) r c c [⟨0, 1⟩] 1 (by simp) (by simp [Canon, Shape]) (by intro s hs; rw [List.mem_singleton] at hs; subst hs; simp)
      (by simp only [Small]; omega) (by simp [endOf]) r3 (by omega) (by intro s hs; rw [List.mem_singleton] at hs; subst hs; simp) (by omega) (by omega)
    simp only [ofV, List.length_cons]
    refine ⟨this.1, this.2.1, ?_, ?_⟩
    · have e := this.2.2.1; rw [show ((r.length + 1 : Nat) : Int) = 1 + r.length from by omega]; exact e
    · have := this.2.2.2; simp at this; omega
theorem rounds_le (l : List S38) : ∀ a : Int, rounds l = (expand a l).length + 2 * l.length + 1 := by
  induction l with
  | nil => intro a; rfl
  | cons s r ih => intro a; simp only [rounds, expand, List.length_append, rng_len, List.length_cons, ih (a + s.f0 + s.f1)]; omega
/-- the indices of the layout of rising numbers -/
theorem ix_of {lo : Int} (l : List Int) (h : Rise lo 1000000000 l) (hlo : -1000000000 ≤ lo) (hlen : l.length ≤ 1000000) {k : Nat} (hk : 3 * l.length + 1 ≤ k) : span_Indices.f k (ofV l).1 (ofV l).2 = some l := by
  have hg := ofV_good (B := 1099511627776) (lo := lo) l (by
    clear hlen hk hlo
    induction l generalizing lo with
    | nil => trivial
    | cons c r ih => exact ⟨h.1, by have := h.2.1; omega, ih h.2.2⟩) (by omega) (by omega)
  have he := ofV_expand l
  have hr := rounds_le (ofV l).2 (ofV l).1
  rw [he.1] at hr
  rw [ix_val (ofV l).1 (ofV l).2 (by omega) hg.2.1 (by rw [he.1]; omega) (by omega), he.1]
def stp (n : Int) : Int := 1 + n % 5 / 3 * (n % 7)
def risIds : Int → List Int → List Int
  | _, [] => []
  | a, n :: r => (a + stp n) :: risIds (a + stp n) r
def risB : Int → Nat → List Int → List Int → List S36
  | _, _, [], _ => []
  | a, i, n :: r, cs => ⟨a + stp n, cs.getD i 0⟩ :: risB (a + stp n) (i + 1) r cs
theorem stp_bound {n : Int} (_h0 : 0 ≤ n) : 1 ≤ stp n ∧ stp n ≤ 7 := by
  unfold stp
  have h : n % 5 / 3 = 0 ∨ n % 5 / 3 = 1 := by omega
  rcases h with h | h <;> rw [h] <;> omega
theorem stp_val {n a : Int} (h0 : 0 ≤ n) (_h1 : n ≤ 255) (ha : -1000000 ≤ a ∧ a ≤ 1000000) :
    wrap64 (a + (wrap64 (1 + (wrap64 ((wrap64 (Int.tdiv (wrap64 (Int.tmod n 5)) 3)) * (wrap64 (Int.tmod n 7))))))) = a + stp n := by
  have hb := stp_bound h0
  have e1 : wrap64 (Int.tmod n 5) = n % 5 := by rw [Int.tmod_eq_emod_of_nonneg h0, w64 (by omega) (by omega)]
  have e2 : wrap64 (Int.tmod n 7) = n % 7 := by rw [Int.tmod_eq_emod_of_nonneg h0, w64 (by omega) (by omega)]
  have e3 : wrap64 (Int.tdiv (n % 5) 3) = n % 5 / 3 := by rw [Int.tdiv_eq_ediv_of_nonneg (by omega), w64 (by omega) (by omega)]
  rw [e1, e2, e3]
  unfold stp at hb ⊢
  rw [w64 (x := n % 5 / 3 * (n % 7)) (by omega) (by omega), w64 (x := 1 + n % 5 / 3 * (n % 7)) (by omega) (by omega), w64 (by omega) (by omega)]
theorem ris_loop (l cs : List Int) (hl : ∀ x ∈ l, 0 ≤ x ∧ x ≤ 255) (hlen : l.length ≤ 1000) (_hc : cs.length ≤ 4611686018427387904) (d : Nat) : ∀ (k n : Nat) (bs : List S36) (ids : List Int) (a : Int), l.length - n = d → n ≤ l.length → -40000 - 7 * n ≤ a → a ≤ 40000 + 7 * n → bs.length ≤ n → ids.length ≤ n → d < k →
    pluviallaw06_Rising.l0 k cs bs ids a l (l.length : Int) (n : Int) = some (bs ++ risB a n (l.drop n) cs, ids ++ risIds a (l.drop n)) := by
  induction d with
  | zero =>
    intro k n bs ids a hd hn ha0 ha1 hb hi hk
    obtain ⟨k, rfl⟩ : ∃ m, k = m + 1 := ⟨k - 1, by omega⟩
    simp only [pluviallaw06_Rising.l0]
    rw [if_neg (by omega), List.drop_eq_nil_of_le (by omega)]
    simp [risB, risIds]
  | succ d ih =>
    intro k n bs ids a hd hn ha0 ha1 hb hi hk
    obtain ⟨k, rfl⟩ : ∃ m, k = m + 1 := ⟨k - 1, by omega⟩
    have hlt : n < l.length := by omega
    have hx := hl _ (List.getElem_mem hlt)
    have hs := stp_bound hx.1
    have er : rd l (n : Int) = l[n] := by unfold rd; simp [hlt]
    simp only [pluviallaw06_Rising.l0]
    rw [if_pos (by omega), if_pos (by omega), if_pos (by omega), er, stp_val hx.1 hx.2 (by omega), w64 (x := (n : Int) + 1) (by omega) (by omega), List.drop_eq_getElem_cons hlt]
    simp only [risB, risIds]
    by_cases c : (n : Int) < (cs.length : Int)
    · have ec : rd cs (n : Int) = cs.getD n 0 := by unfold rd; simp
      rw [if_pos c, if_pos (by omega), if_pos (by omega), ec]
      have := ih k (n + 1) (bs ++ [⟨a + stp l[n], cs.getD n 0⟩]) (ids ++ [a + stp l[n]]) (a + stp l[n]) (by omega) (by omega) (by omega) (by omega) (by simp; omega) (by simp; omega) (by omega)
      simpa using this
    · have ec : cs.getD n 0 = 0 := by rw [List.getD_eq_getElem?_getD, List.getElem?_eq_none (by omega)]; rfl
      rw [if_neg c, if_pos (by omega), if_pos (by omega), ec]
      have := ih k (n + 1) (bs ++ [⟨a + stp l[n], 0⟩]) (ids ++ [a + stp l[n]]) (a + stp l[n]) (by omega) (by omega) (by omega) (by omega) (by simp; omega) (by simp; omega) (by omega)
      simpa using this
theorem ris_val (l cs : List Int) (a : Int) (hl : ∀ x ∈ l, 0 ≤ x ∧ x ≤ 255) (hlen : l.length ≤ 1000) (hc : cs.length ≤ 4611686018427387904) (ha : -32768 ≤ a ∧ a ≤ 32767) {k : Nat} (hk : l.length < k) :
    pluviallaw06_Rising.f k l a cs = some (risB a 0 l cs, risIds a l) := by
  unfold pluviallaw06_Rising.f
  rw [w64 (x := a) (by omega) (by omega)]
  have := ris_loop l cs hl hlen hc l.length k 0 [] [] a (by omega) (by omega) (by omega) (by omega) (by simp) (by simp) hk
  simpa using this
theorem risB_ids (l cs : List Int) : ∀ (a : Int) (i : Nat), (risB a i l cs).map S36.f0 = risIds a l := by
  induction l with
  | nil => intro a i; rfl
  | cons n r ih => intro a i; simp [risB, risIds, ih]
theorem risIds_len (l : List Int) : ∀ a : Int, (risIds a l).length = l.length := by
  induction l with
  | nil => intro a; rfl
  | cons n r ih => intro a; simp [risIds, ih]
theorem risIds_rise (l : List Int) (hl : ∀ x ∈ l, 0 ≤ x ∧ x ≤ 255) : ∀ (a hi : Int), a + 7 * l.length ≤ hi → Rise a hi (risIds a l) := by
  induction l with
  | nil => intro a hi _; trivial
  | cons n r ih =>
    intro a hi h
    have hs := stp_bound (hl n (by simp)).1
    simp only [List.length_cons] at h
    exact ⟨by omega, by omega, ih (fun x hx => hl x (List.mem_cons_of_mem _ hx)) _ hi (by omega)⟩
theorem risB_mem {l cs : List Int} {a hi : Int} {i : Nat} (h : Rise a hi (risIds a l)) : ∀ x ∈ risB a i l cs, a < x.f0 ∧ x.f0 ≤ hi := by
  intro x hx
  have : x.f0 ∈ risIds a l := by rw [← risB_ids l cs a i]; exact List.mem_map_of_mem hx
  exact h.mem _ this
theorem awake_any {k : Nat} (hk : 10 ≤ k) : pluviallaw06_awake.f k = some true := at_rounds pluviallaw06_awake.mono hk (show pluviallaw06_awake.f 10 = some true by decide +kernel)
/-- the layout of the rising buckets, and its indices -/
theorem of_ris {l cs : List Int} {a : Int} (hl : ∀ x ∈ l, 0 ≤ x ∧ x ≤ 255) (hlen : l.length ≤ 1000) (ha : -32768 ≤ a ∧ a ≤ 32767) {k : Nat} (hk : l.length < k) : span_Of.f k (risB a 0 l cs) = some (ofV (risIds a l)) := by
  have hr := risIds_rise l hl a 1000000 (by omega)
  have e := congrArg List.length (risB_ids l cs a 0)
  rw [List.length_map, risIds_len] at e
  rw [of_val _ (fun x hx => by have := risB_mem hr x hx; omega) (by omega) (by omega), risB_ids]
/-- two rising lists, one -/
def mrg : List Int → List Int → List Int
  | [], y => y
  | x :: xs, [] => x :: xs
  | x :: xs, y :: ys => if x < y then x :: mrg xs (y :: ys) else if y < x then y :: mrg (x :: xs) ys else x :: mrg xs ys
termination_by a b => a.length + b.length
theorem mrg_nil_right (x : List Int) : mrg x [] = x := by cases x <;> simp [mrg]
theorem mrg_mem : ∀ (n : Nat) (x y : List Int), x.length + y.length ≤ n → ∀ z, z ∈ mrg x y ↔ z ∈ x ∨ z ∈ y := by
  intro n
  induction n with
  | zero =>
    intro x y h z
    have hx : x = [] := List.eq_nil_of_length_eq_zero (by omega)
    have hy : y = [] := List.eq_nil_of_length_eq_zero (by omega)
    subst hx hy; simp [mrg]
  | succ n ih =>
    intro x y h z
    match x, y with
    | [], y => simp [mrg]
    | a :: x, [] => simp [mrg]
    | a :: x, b :: y =>
      simp only [List.length_cons] at h
      rw [mrg]
      split
      · rw [List.mem_cons, ih x (b :: y) (by simp; omega)]; simp only [List.mem_cons, or_assoc]
      · split
        · rw [List.mem_cons, ih (a :: x) y (by simp; omega)]; simp only [List.mem_cons]
          constructor
          · intro h; rcases h with h | (h | h) | h <;> simp [h]
          · intro h; rcases h with (h | h) | h | h <;> simp [h]
        · have hab : a = b := by omega
          subst hab
          rw [List.mem_cons, ih x y (by omega)]; simp only [List.mem_cons]
          constructor
          · intro h; rcases h with h | h | h <;> simp [h]
          · intro h; rcases h with (h | h) | h | h <;> simp [h]
theorem mrg_len : ∀ (n : Nat) (x y : List Int), x.length + y.length ≤ n → (mrg x y).length ≤ x.length + y.length := by
  intro n
  induction n with
  | zero =>
    intro x y h
    have hx : x = [] := List.eq_nil_of_length_eq_zero (by omega)
    have hy : y = [] := List.eq_nil_of_length_eq_zero (by omega)
    subst hx hy; simp [mrg]
  | succ n ih =>
    intro x y h
    match x, y with
    | [], y => simp [mrg]
    | a :: x, [] => simp [mrg]
    | a :: x, b :: y =>
      simp only [List.length_cons] at h
      rw [mrg]
      split
      · have := ih x (b :: y) (by simp; omega); simp only [List.length_cons] at this ⊢; omega
      · split
        · have := ih (a :: x) y (by simp; omega); simp only [List.length_cons] at this ⊢; omega
        · have := ih x y (by omega); simp only [List.length_cons] at this ⊢; omega
theorem mrg_rise {hi : Int} : ∀ (n : Nat) (lo : Int) (x y : List Int), x.length + y.length ≤ n → Rise lo hi x → Rise lo hi y → Rise lo hi (mrg x y) := by
  intro n
  induction n with
  | zero =>
    intro lo x y h _ _
    have hx : x = [] := List.eq_nil_of_length_eq_zero (by omega)
    have hy : y = [] := List.eq_nil_of_length_eq_zero (by omega)
    subst hx hy; simp [mrg, Rise]
  | succ n ih =>
    intro lo x y h h1 h2
    match x, y, h1, h2 with
    | [], y, _, h2 => simpa [mrg] using h2
    | a :: x, [], h1, _ => simpa [mrg] using h1
    | a :: x, b :: y, h1, h2 =>
      simp only [List.length_cons] at h
      rw [mrg]
      split
      · rename_i c; exact ⟨h1.1, h1.2.1, ih a x (b :: y) (by simp; omega) h1.2.2 ⟨c, h2.2.1, h2.2.2⟩⟩
      · split
        · rename_i c; exact ⟨h2.1, h2.2.1, ih b (a :: x) y (by simp; omega) ⟨c, h1.2.1, h1.2.2⟩ h2.2.2⟩
        · have hab : a = b := by omega
          subst hab
          exact ⟨h1.1, h1.2.1, ih a x y (by omega) h1.2.2 h2.2.2⟩
/-- rising lists of the same numbers are one -/
theorem rise_ext {hi hi' : Int} : ∀ (a b : List Int) (lo lo' : Int), Rise lo hi a → Rise lo' hi' b → (∀ z, z ∈ a ↔ z ∈ b) → a = b := by
  intro a
  induction a with
  | nil =>
    intro b lo lo' _ _ h
    cases b with
    | nil => rfl
    | cons y b => exact absurd ((h y).2 (by simp)) (by simp)
  | cons x a ih =>
    intro b lo lo' ha hb h
    cases b with
    | nil => exact absurd ((h x).1 (by simp)) (by simp)
    | cons y b =>
      have hx := (h x).1 (by simp)
      have hy := (h y).2 (by simp)
      have ma := ha.2.2.mem
      have mb := hb.2.2.mem
      have hxy : x = y := by
        rw [List.mem_cons] at hx hy
        rcases hx with e | hx
        · exact e
        · rcases hy with e | hy
          · exact e.symm
          · have := mb x hx; have := ma y hy; omega
      subst hxy
      rw [ih b x x ha.2.2 hb.2.2]
      intro z
      have hz := h z
      simp only [List.mem_cons] at hz
      constructor
      · intro hza
        have := ma z hza
        rcases hz.1 (.inr hza) with e | e
        · omega
        · exact e
      · intro hzb
        have := mb z hzb
        rcases hz.2 (.inr hzb) with e | e
        · omega
        · exact e
def hasGo : List Int → List Int → Bool
  | _, [] => true
  | [], _ :: _ => false
  | a :: x, b :: y => if a < b then hasGo x (b :: y) else if a = b then hasGo (a :: x) y else false
termination_by a b => a.length + b.length
theorem has_iff {hi hi' : Int} : ∀ (n : Nat) (x y : List Int) (lo lo' : Int), x.length + y.length ≤ n → Rise lo hi x → Rise lo' hi' y → (hasGo x y = true ↔ ∀ z ∈ y, z ∈ x) := by
  intro n
  induction n with
  | zero =>
    intro x y lo lo' h _ _
    have hy : y = [] := List.eq_nil_of_length_eq_zero (by omega)
    subst hy; simp [hasGo]
  | succ n ih =>
    intro x y lo lo' h h1 h2
    match x, y, h1, h2 with
    | x, [], _, _ => simp [hasGo]
    | [], b :: y, _, _ =>
      rw [hasGo]
      constructor
      · intro g; exact absurd g (by decide)
      · intro g; exact absurd (g b (by simp)) (by simp)
    | a :: x, b :: y, h1, h2 =>
      simp only [List.length_cons] at h
      have mx := h1.2.2.mem
      have my := h2.2.2.mem
      rw [hasGo]
      split
      · rename_i c
        rw [ih x (b :: y) a lo' (by simp; omega) h1.2.2 h2]
        constructor
        · intro g z hz; exact List.mem_cons_of_mem _ (g z hz)
        · intro g z hz
          have hz' : a < z := by
            rw [List.mem_cons] at hz
            rcases hz with e | e
            · omega
            · have := my z e; omega
          rcases List.mem_cons.1 (g z hz) with e | e
          · omega
          · exact e
      · split
        · rename_i c
          subst c
          rw [ih (a :: x) y lo a (by simp; omega) h1 h2.2.2]
          constructor
          · intro g z hz
            rcases List.mem_cons.1 hz with e | e
            · rw [e]; simp
            · exact g z e
          · intro g z hz; exact g z (List.mem_cons_of_mem _ hz)
        · rename_i c1 c2
          constructor
          · intro g; exact absurd g (by decide)
          · intro g
            have := g b (by simp)
            rcases List.mem_cons.1 this with e | e
            · omega
            · have := mx b e; omega
/-- a list is joined with what it has: itself -/
theorem has_join {lo hi : Int} {x y : List Int} (h1 : Rise lo hi x) {lo' : Int} (h2 : Rise lo' hi y) {l0 : Int} (hl : l0 ≤ lo ∧ l0 ≤ lo') : (hasGo x y = true ↔ mrg x y = x) ∧ (hasGo y x = true ↔ mrg x y = y) := by
  have hm := mrg_mem (x.length + y.length) x y (Nat.le_refl _)
  have hr := mrg_rise (x.length + y.length) l0 x y (Nat.le_refl _) (h1.mono hl.1) (h2.mono hl.2)
  constructor
  · rw [has_iff (x.length + y.length) x y lo lo' (Nat.le_refl _) h1 h2]
    constructor
    · intro g
      exact rise_ext _ _ l0 lo hr h1 (fun z => by rw [hm]; exact ⟨fun h => h.elim id (g z), .inl⟩)
    · intro g z hz
      rw [← g, hm]; exact .inr hz
  · rw [has_iff (y.length + x.length) y x lo' lo (Nat.le_refl _) h2 h1]
    constructor
    · intro g
      exact rise_ext _ _ l0 lo' hr h2 (fun z => by rw [hm]; exact ⟨fun h => h.elim (g z) id, .inr⟩)
    · intro g z hz
      rw [← g, hm]; exact .inl hz
/-- the walk of Join -/
def bk (i : Int) : S36 := ⟨i, 0⟩
theorem join_loop (hb : Int) (hbb : hb ≤ 1000000000) : ∀ (d : Nat) (k : Nat) (x y : List Int) (M : List S36), x.length + y.length = d → (∀ z ∈ x, -1000000000 ≤ z ∧ z ≤ hb) → (∀ z ∈ y, -1000000000 ≤ z ∧ z ≤ hb) → (∀ z ∈ M, -1000000000 ≤ z.f0 ∧ z.f0 ≤ hb) → M.length + d ≤ 1000000 → 2 * d + M.length + d + 2 ≤ k →
    span_Join.l0 k x y M = some (ofV (M.map S36.f0 ++ mrg x y)) := by
  intro d
  induction d using Nat.strongRecOn with
  | ind d ih =>
    intro k x y M hd hx hy hM hl hk
    obtain ⟨k, rfl⟩ : ∃ m, k = m + 2 := ⟨k - 2, by omega⟩
    simp only [span_Join.l0]
    rw [w64 (by omega) (by omega)]
    have fin : ∀ z : Int, (-1000000000 ≤ z ∧ z ≤ hb) → ∀ t ∈ M ++ [bk z], -1000000000 ≤ t.f0 ∧ t.f0 ≤ hb := by
      intro z hz t ht
      rcases List.mem_append.1 ht with e | e
      · exact hM t e
      · rw [List.mem_singleton] at e; subst e; exact hz
    match x, y, hd, hx, hy with
    | [], [], hd, hx, hy =>
      rw [if_neg (by simp), of_val M (fun z hz => by have := hM z hz; omega) (by omega) (by omega), Option.bind_some]
      simp [mrg]
    | a :: x, [], hd, hx, hy =>
      simp only [List.length_cons, List.length_nil] at hd
      have ha := hx a (by simp)
      rw [if_pos (by simp only [List.length_cons, List.length_nil]; omega), if_pos (by simp)]
      simp only [span_Join.j1, if_true]
      rw [if_pos (by simp only [List.length_cons]; omega), if_pos (by omega), if_pos (by simp only [List.length_cons]; omega)]
      have := ih (d - 1) (by omega) k x [] (M ++ [bk a]) (by simp; omega) (fun z hz => hx z (List.mem_cons_of_mem _ hz)) (by simp) (fin a ha) (by simp; omega) (by simp; omega)
      refine Eq.trans this ?_
      simp [mrg_nil_right, bk]
    | [], b :: y, hd, hx, hy =>
      simp only [List.length_cons, List.length_nil] at hd
      have hb' := hy b (by simp)
      rw [if_pos (by simp only [List.length_cons, List.length_nil]; omega), if_neg (by simp only [List.length_cons]; omega), if_neg (by simp)]
      simp only [span_Join.j1, Bool.false_eq_true, if_false]
      rw [if_pos (by simp), if_pos (by simp only [List.length_cons]; omega), if_pos (by omega), if_pos (by simp only [List.length_cons]; omega)]
      have := ih (d - 1) (by omega) k [] y (M ++ [bk b]) (by simp; omega) (by simp) (fun z hz => hy z (List.mem_cons_of_mem _ hz)) (fin b hb') (by simp; omega) (by simp; omega)
      refine Eq.trans this ?_
      simp [mrg, bk]
    | a :: x, b :: y, hd, hx, hy =>
      simp only [List.length_cons] at hd
      have ha := hx a (by simp)
      have hb' := hy b (by simp)
      have hpos : (0 : Int) < ((a :: x).length : Int) := by simp only [List.length_cons]; omega
      have hpos' : (0 : Int) < ((b :: y).length : Int) := by simp only [List.length_cons]; omega
      rw [if_pos (by omega), if_neg (by omega), if_pos hpos, if_pos hpos, if_pos hpos', show rd (a :: x) 0 = a from rfl, show rd (b :: y) 0 = b from rfl]
      have hx' : ∀ z ∈ x, -1000000000 ≤ z ∧ z ≤ hb := fun z hz => hx z (List.mem_cons_of_mem _ hz)
      have hy' : ∀ z ∈ y, -1000000000 ≤ z ∧ z ≤ hb := fun z hz => hy z (List.mem_cons_of_mem _ hz)
      by_cases c1 : a < b
      · rw [decide_eq_true c1]
        simp only [span_Join.j1, if_true]
        rw [if_pos hpos, if_pos (by omega), if_pos (by omega), show rd (a :: x) 0 = a from rfl]
        have := ih (d - 1) (by omega) k x (b :: y) (M ++ [bk a]) (by simp; omega) hx' hy (fin a ha) (by simp; omega) (by simp; omega)
        refine Eq.trans this ?_
        rw [mrg, if_pos c1]; simp [bk]
      · rw [decide_eq_false c1]
        simp only [span_Join.j1, Bool.false_eq_true, if_false]
        rw [if_neg (by omega), if_pos hpos', if_pos hpos, show rd (a :: x) 0 = a from rfl, show rd (b :: y) 0 = b from rfl]
        by_cases c2 : b < a
        · rw [if_pos c2, if_pos (by omega), if_pos (by omega)]
          have := ih (d - 1) (by omega) k (a :: x) y (M ++ [bk b]) (by simp; omega) hx hy' (fin b hb') (by simp; omega) (by simp; omega)
          refine Eq.trans this ?_
          rw [mrg, if_neg c1, if_pos c2]; simp [bk]
        · rw [if_neg c2, if_pos (by omega), if_pos (by omega), if_pos (by omega)]
          have := ih (d - 2) (by omega) k x y (M ++ [bk a]) (by omega) hx' hy' (fin a ha) (by simp; omega) (by simp; omega)
          refine Eq.trans this ?_
          rw [mrg, if_neg c1, if_neg c2]; simp [bk]
/-- a list of indices that a layout is made of: rising, and small -/
structure Ids (l : List Int) : Prop where
  rise : Rise (-100000) 1000000 l
  len : l.length ≤ 10000
theorem Ids.ix {l : List Int} (h : Ids l) {k : Nat} (hk : 3 * l.length + 1 ≤ k) : span_Indices.f k (ofV l).1 (ofV l).2 = some l := by
  refine ix_of (lo := -100000) l ?_ (by omega) (by have := h.len; omega) hk
  have := h.rise
  clear hk h
  generalize (-100000 : Int) = lo at this ⊢
  induction l generalizing lo with
  | nil => trivial
  | cons c r ih => exact ⟨this.1, by have := this.2.1; omega, ih _ this.2.2⟩
theorem Ids.bound {l : List Int} (h : Ids l) : ∀ z ∈ l, -1000000000 ≤ z ∧ z ≤ 1000000 := fun z hz => by have := h.rise.mem z hz; omega
theorem join_val {x y : List Int} (hx : Ids x) (hy : Ids y) {k : Nat} (hk : 200000 ≤ k) : span_Join.f k (ofV x).1 (ofV x).2 (ofV y).1 (ofV y).2 = some (ofV (mrg x y)) := by
  have h1 := hx.len
  have h2 := hy.len
  unfold span_Join.f
  rw [hx.ix (by omega), hy.ix (by omega), Option.bind_some, Option.bind_some]
  have := join_loop 1000000 (by omega) (x.length + y.length) k x y [] rfl hx.bound hy.bound (by simp) (by simp; omega) (by simp; omega)
  simpa using this
theorem Ids.join {x y : List Int} (hx : Ids x) (hy : Ids y) (hl : x.length + y.length ≤ 10000) : Ids (mrg x y) :=
  ⟨mrg_rise _ _ x y (Nat.le_refl _) hx.rise hy.rise, by have := mrg_len _ x y (Nat.le_refl _); omega⟩
/-- the walk of Has -/
theorem has_loop (xs ys : List Int) (hxl : xs.length ≤ 1000000) (hyl : ys.length ≤ 1000000) : ∀ (d : Nat) (k i n : Nat), (xs.length - i) + (ys.length - n) = d → i ≤ xs.length → n ≤ ys.length → 2 * d + 4 ≤ k →
    span_Has.l0 k xs (i : Int) ys (ys.length : Int) (n : Int) = some (hasGo (xs.drop i) (ys.drop n)) ∧
    (∀ b, ys.drop n = b :: ys.drop (n + 1) → span_Has.l1 k xs (i : Int) b ys (ys.length : Int) (n : Int) = some (hasGo (xs.drop i) (ys.drop n))) := by
  intro d
  induction d using Nat.strongRecOn with
  | ind d ih =>
    intro k i n hd hi hn hk
    have key : ∀ (k : Nat), 2 * d + 3 ≤ k → ∀ b, ys.drop n = b :: ys.drop (n + 1) → span_Has.l1 k xs (i : Int) b ys (ys.length : Int) (n : Int) = some (hasGo (xs.drop i) (ys.drop n)) := by
      intro k hk b hb
      have hnlt : n < ys.length := by
        rcases Nat.lt_or_ge n ys.length with h | h
        · exact h
        · rw [List.drop_eq_nil_of_le h] at hb; simp at hb
      obtain ⟨k, rfl⟩ : ∃ m, k = m + 1 := ⟨k - 1, by omega⟩
      simp only [span_Has.l1]
      by_cases c : i < xs.length
      · have er : rd xs (i : Int) = xs[i] := by unfold rd; simp [c]
        have ed : xs.drop i = xs[i] :: xs.drop (i + 1) := List.drop_eq_getElem_cons c
        rw [if_pos (by omega), if_pos (by omega), er, w64 (x := (i : Int) + 1) (by omega) (by omega), w64 (x := (n : Int) + 1) (by omega) (by omega), ed, hb, hasGo]
        by_cases c1 : xs[i] < b
        · rw [if_pos c1, if_pos c1]
          have := (ih (d - 1) (by omega) k (i + 1) n (by omega) (by omega) hn (by omega)).2 b hb
          rw [hb] at this
          exact this
        · rw [if_neg c1, if_neg c1, if_neg (by omega)]
          by_cases c2 : xs[i] = b
          · rw [if_pos c2, if_pos c2]
            have := (ih (d - 1) (by omega) k i (n + 1) (by omega) hi (by omega) (by omega)).1
            rw [ed] at this
            exact this
          · rw [if_neg c2, if_neg c2]
      · rw [if_neg (by omega), if_pos (by omega), List.drop_eq_nil_of_le (by omega), hb, hasGo]
    refine ⟨?_, key k (by omega)⟩
    obtain ⟨k, rfl⟩ : ∃ m, k = m + 1 := ⟨k - 1, by omega⟩
    simp only [span_Has.l0]
    by_cases c : n < ys.length
    · have ed : ys.drop n = ys[n] :: ys.drop (n + 1) := List.drop_eq_getElem_cons c
      have er : rd ys (n : Int) = ys[n] := by unfold rd; simp [c]
      rw [if_pos (by omega), if_pos (by omega), if_pos (by omega), er]
      exact key k (by omega) _ ed
    · rw [if_neg (by omega), List.drop_eq_nil_of_le (by omega : ys.length ≤ n)]
      cases xs.drop i <;> simp [hasGo]
theorem has_val {x y : List Int} (hx : Ids x) (hy : Ids y) {k : Nat} (hk : 200000 ≤ k) : span_Has.f k (ofV x).1 (ofV x).2 (ofV y).1 (ofV y).2 = some (hasGo x y) := by
  have h1 := hx.len
  have h2 := hy.len
  unfold span_Has.f
  rw [hx.ix (by omega), hy.ix (by omega), Option.bind_some, Option.bind_some]
  have := (has_loop x y (by omega) (by omega) (x.length + y.length) k 0 0 (by omega) (by omega) (by omega) (by omega)).1
  simpa using this
/-- the walk of Same -/
instance : DecidableEq S38 := fun a b => decidable_of_iff (a.f0 = b.f0 ∧ a.f1 = b.f1) ⟨fun h => by cases a; cases b; simp only at h; rw [h.1, h.2], fun h => by rw [h]; exact ⟨rfl, rfl⟩⟩
theorem same_loop (S T : List S38) (hl : S.length = T.length) (hm : S.length ≤ 1000000) (F G : Int) : ∀ (d k n : Nat), S.length - n = d → n ≤ S.length → d < k →
    span_Same.l0 k (S.length : Int) (n : Int) F S G T = some (decide (S.drop n = T.drop n)) := by
  intro d
  induction d with
  | zero =>
    intro k n hd hn hk
    obtain ⟨k, rfl⟩ : ∃ m, k = m + 1 := ⟨k - 1, by omega⟩
    simp only [span_Same.l0]
    rw [if_neg (by omega), List.drop_eq_nil_of_le (by omega), List.drop_eq_nil_of_le (by omega)]; simp
  | succ d ih =>
    intro k n hd hn hk
    obtain ⟨k, rfl⟩ : ∃ m, k = m + 1 := ⟨k - 1, by omega⟩
    have c : n < S.length := by omega
    have c' : n < T.length := by omega
    have er : rd_T38 S (n : Int) = S[n] := by unfold rd_T38; simp [c]
    have er' : rd_T38 T (n : Int) = T[n] := by unfold rd_T38; simp [c']
    simp only [span_Same.l0]
    rw [if_pos (by omega), if_pos (by omega), if_pos (by omega), if_pos (by omega), er, er', w64 (x := (n : Int) + 1) (by omega) (by omega), List.drop_eq_getElem_cons c, List.drop_eq_getElem_cons c']
    by_cases e : S[n] = T[n]
    · rw [e]
      simp only [beq_self_eq_true, Bool.not_true, Bool.or_false, Bool.false_eq_true, if_false]
      have := ih k (n + 1) (by omega) (by omega) (by omega)
      rw [show ((n : Int) + 1) = ((n + 1 : Nat) : Int) from by omega, this]
      simp only [List.cons.injEq, true_and]
    · have hne : ¬ (S[n].f0 = T[n].f0 ∧ S[n].f1 = T[n].f1) := by
        intro h
        apply e
        generalize S[n] = a at h ⊢
        generalize T[n] = b at h ⊢
        cases a; cases b
        simp only at h
        rw [h.1, h.2]
      have : (!(S[n].f0 == T[n].f0) || !(S[n].f1 == T[n].f1)) = true := by
        simp only [Bool.or_eq_true, Bool.not_eq_true', beq_eq_false_iff_ne]
        by_cases h : S[n].f0 = T[n].f0
        · exact .inr fun h2 => hne ⟨h, h2⟩
        · exact .inl h
      rw [if_pos this, decide_eq_false]
      intro h
      simp only [List.cons.injEq] at h
      exact e h.1
theorem same_val {x y : List Int} (hx : Ids x) {k : Nat} (hk : 200000 ≤ k) : span_Same.f k (ofV x).1 (ofV x).2 (ofV y).1 (ofV y).2 = some (decide (x = y)) := by
  have gx := ofV_good (B := 1099511627776) (lo := -100000) x (by
    have := hx.rise
    clear hk hx
    generalize (-100000 : Int) = lo at this ⊢
    induction x generalizing lo with
    | nil => trivial
    | cons c r ih => exact ⟨this.1, by have := this.2.1; omega, ih _ this.2.2⟩) (by omega) (by have := hx.len; omega)
  have l1 := gx.2.2.2
  have l2 := hx.len
  have ex := (ofV_expand x).1
  have ey := (ofV_expand y).1
  have inj : (ofV x).1 = (ofV y).1 → (ofV x).2 = (ofV y).2 → x = y := by
    intro h1 h2
    rw [← ex, ← ey, h1, h2]
  obtain ⟨k, rfl⟩ : ∃ m, k = m + 1 := ⟨k - 1, by omega⟩
  unfold span_Same.f
  by_cases h1 : (ofV x).1 = (ofV y).1
  · rw [if_pos h1]
    by_cases h2 : (ofV x).2.length = (ofV y).2.length
    · have : (((ofV x).2.length : Int) != ((ofV y).2.length : Int)) = false := by rw [h2]; simp
      rw [this]
      simp only [span_Same.j0, Bool.false_eq_true, if_false]
      have := same_loop (ofV x).2 (ofV y).2 h2 (by omega) (ofV x).1 (ofV y).1 (ofV x).2.length k 0 (by omega) (by omega) (by omega)
      refine Eq.trans this ?_
      congr 1
      simp only [List.drop_zero]
      rw [Bool.eq_iff_iff]
      simp only [decide_eq_true_eq]
      exact ⟨fun h => inj h1 h, fun h => by rw [h]⟩
    · have : (((ofV x).2.length : Int) != ((ofV y).2.length : Int)) = true := by simp; omega
      rw [this]
      simp only [span_Same.j0, if_true]
      rw [decide_eq_false]
      intro h; rw [h] at h2; exact h2 rfl
  · rw [if_neg h1]
    simp only [span_Same.j0, if_true]
    rw [decide_eq_false]
    intro h; rw [h] at h1; exact h1 rfl
/-- how Counts looks at buckets -/
def look : List S36 → Int → Int
  | [], _ => 0
  | b :: bs, i => if b.f0 = i then b.f1 else look bs i
theorem look_none : ∀ (bs : List S36) (i : Int), (∀ b ∈ bs, b.f0 ≠ i) → look bs i = 0 := by
  intro bs
  induction bs with
  | nil => intro i _; rfl
  | cons b bs ih =>
    intro i h
    rw [look, if_neg (h b (by simp)), ih i (fun c hc => h c (List.mem_cons_of_mem _ hc))]
theorem counts_loop (ids : List Int) (hil : ids.length ≤ 1000000) {hi : Int} {lo : Int} (hr : Rise lo hi ids) : ∀ (d k n : Nat) (bs : List S36) (lo' : Int) (acc : List Int), bs.length + 2 * (ids.length - n) = d → n ≤ ids.length → bs.length ≤ 1000000 → acc.length ≤ n → Rise lo' hi (bs.map S36.f0) → 2 * d + 2 ≤ k →
    span_Counts.l0 k bs acc ids (ids.length : Int) (n : Int) = some (acc ++ (ids.drop n).map (look bs)) ∧
    (∀ h : n < ids.length, span_Counts.l1 k bs acc ids[n] ids (ids.length : Int) (n : Int) = some (acc ++ (ids.drop n).map (look bs))) := by
  have drise : ∀ (n : Nat) (l : List Int) (lo : Int), Rise lo hi l → ∀ h : n < l.length, Rise l[n] hi (l.drop (n + 1)) := by
    intro n
    induction n with
    | zero => intro l lo h hn; cases l with | nil => simp at hn | cons c r => exact h.2.2
    | succ n ih => intro l lo h hn; cases l with | nil => simp at hn | cons c r => exact ih r c h.2.2 (by simpa using hn)
  intro d
  induction d using Nat.strongRecOn with
  | ind d ih =>
    intro k n bs lo' acc hd hn hb ha hbr hk
    have key : ∀ (k : Nat), 2 * d + 1 ≤ k → ∀ h : n < ids.length, span_Counts.l1 k bs acc ids[n] ids (ids.length : Int) (n : Int) = some (acc ++ (ids.drop n).map (look bs)) := by
      intro k hk h
      obtain ⟨k, rfl⟩ : ∃ m, k = m + 1 := ⟨k - 1, by omega⟩
      have ed : ids.drop n = ids[n] :: ids.drop (n + 1) := List.drop_eq_getElem_cons h
      have hrd := drise n ids lo hr h
      simp only [span_Counts.l1]
      rw [w64 (x := (n : Int) + 1) (by omega) (by omega), show ((n : Int) + 1) = ((n + 1 : Nat) : Int) from by omega]
      cases bs with
      | nil =>
        rw [if_neg (by simp), if_pos (by omega)]
        have := (ih (d - 2) (by simp at hd; omega) k (n + 1) [] lo' (acc ++ [0]) (by simp at hd ⊢; omega) (by omega) (by simp) (by simp; omega) hbr (by simp at hd; omega)).1
        refine Eq.trans this ?_
        rw [ed, List.map_cons, List.append_assoc]; rfl
      | cons b bs =>
        simp only [List.length_cons] at hd hb
        obtain ⟨hb1, hb2, hb3⟩ := hbr
        have hpos : (((b :: bs).length : Int) > 0) := by simp only [List.length_cons]; omega
        have eb : rd_T36 (b :: bs) 0 = b := rfl
        rw [if_pos hpos, if_pos hpos, eb]
        by_cases c1 : b.f0 < ids[n]
        · rw [if_pos c1, if_pos (by omega)]
          have := (ih (d - 1) (by omega) k n bs b.f0 acc (by omega) hn (by omega) ha hb3 (by omega)).2 h
          refine Eq.trans this ?_
          congr 2
          refine List.map_congr_left fun j hj => ?_
          have : b.f0 < j := by
            rw [ed] at hj
            rcases List.mem_cons.1 hj with e | e
            · omega
            · have := (hrd.mem j e).1; omega
          rw [look, if_neg (by omega)]
        · rw [if_neg c1]
          by_cases c2 : b.f0 = ids[n]
          · rw [if_pos c2, if_pos (by omega)]
            have := (ih (d - 2) (by omega) k (n + 1) (b :: bs) lo' (acc ++ [b.f1]) (by simp; omega) (by omega) (by simp; omega) (by simp; omega) ⟨hb1, hb2, hb3⟩ (by omega)).1
            refine Eq.trans this ?_
            rw [ed, List.map_cons, List.append_assoc, show look (b :: bs) ids[n] = b.f1 from by rw [look, if_pos c2]]; rfl
          · rw [if_neg c2, if_pos (by omega)]
            have := (ih (d - 2) (by omega) k (n + 1) (b :: bs) lo' (acc ++ [0]) (by simp; omega) (by omega) (by simp; omega) (by simp; omega) ⟨hb1, hb2, hb3⟩ (by omega)).1
            refine Eq.trans this ?_
            have hz : look (b :: bs) ids[n] = 0 := look_none _ _ (fun e he => by
              rcases List.mem_cons.1 he with g | g
              · rw [g]; omega
              · have := (hb3.mem e.f0 (List.mem_map_of_mem g)).1; omega)
            rw [ed, List.map_cons, List.append_assoc, hz]; rfl
    refine ⟨?_, key k (by omega)⟩
    obtain ⟨k, rfl⟩ : ∃ m, k = m + 1 := ⟨k - 1, by omega⟩
    simp only [span_Counts.l0]
    by_cases c : n < ids.length
    · have er : rd ids (n : Int) = ids[n] := by unfold rd; simp [c]
      rw [if_pos (by omega), if_pos (by omega), if_pos (by omega), er]
      exact key k (by omega) c
    · rw [if_neg (by omega), List.drop_eq_nil_of_le (by omega)]; simp
theorem counts_val {x : List Int} (hx : Ids x) {bs : List S36} {lo : Int} (hb : Rise lo 1000000 (bs.map S36.f0)) (hbl : bs.length ≤ 10000) {k : Nat} (hk : 200000 ≤ k) : span_Counts.f k (ofV x).1 (ofV x).2 bs = some (x.map (look bs)) := by
  have h1 := hx.len
  unfold span_Counts.f
  rw [hx.ix (by omega), Option.bind_some]
  have := (counts_loop x (by omega) hx.rise (bs.length + 2 * x.length) k 0 bs lo [] (by omega) (by omega) (by omega) (by simp) hb (by omega)).1
  simpa using this
theorem look_own {hi : Int} : ∀ (bs : List S36) (lo : Int), Rise lo hi (bs.map S36.f0) → (bs.map S36.f0).map (look bs) = bs.map S36.f1 := by
  intro bs
  induction bs with
  | nil => intro _ _; rfl
  | cons b bs ih =>
    intro lo h
    have hm := h.2.2.mem
    have := ih b.f0 h.2.2
    simp only [List.map_cons, look, if_true]
    congr 1
    rw [← this]
    refine List.map_congr_left fun j hj => ?_
    rw [if_neg (by have := (hm j hj).1; omega)]
theorem same_rise {a : Int} {l : List Int} (hl : ∀ x ∈ l, 0 ≤ x ∧ x ≤ 255) (hlen : l.length ≤ 200) (ha : -32768 ≤ a ∧ a ≤ 32767) : Rise (-40000) 200000 (risIds a l) ∧ Ids (risIds a l) := by
  have h1 := risIds_rise l hl a 200000 (by omega)
  have h2 := risIds_rise l hl a 1000000 (by omega)
  exact ⟨h1.mono (by omega), h2.mono (by omega), by rw [risIds_len]; omega⟩
theorem mrg_disj : ∀ (n : Nat) (x y : List Int), x.length + y.length ≤ n → (∀ z ∈ x, z ∉ y) → (mrg x y).length = x.length + y.length := by
  intro n
  induction n with
  | zero =>
    intro x y h _
    have hx : x = [] := List.eq_nil_of_length_eq_zero (by omega)
    have hy : y = [] := List.eq_nil_of_length_eq_zero (by omega)
    subst hx hy; simp [mrg]
  | succ n ih =>
    intro x y h hd
    match x, y with
    | [], y => simp [mrg]
    | a :: x, [] => simp [mrg]
    | a :: x, b :: y =>
      simp only [List.length_cons] at h
      rw [mrg]
      split
      · have := ih x (b :: y) (by simp; omega) (fun z hz => hd z (List.mem_cons_of_mem _ hz)); simp only [List.length_cons] at this ⊢; omega
      · split
        · have := ih (a :: x) y (by simp; omega) (fun z hz hy => hd z hz (List.mem_cons_of_mem _ hy)); simp only [List.length_cons] at this ⊢; omega
        · have hab : a = b := by omega
          subst hab
          exact absurd (List.mem_cons_self) (hd a List.mem_cons_self)
theorem rise_filter {hi : Int} (f : Int → Bool) : ∀ (l : List Int) (lo : Int), Rise lo hi l → Rise lo hi (l.filter f)
  | [], _, _ => trivial
  | c :: r, lo, h => by
    rw [List.filter_cons]
    split
    · exact ⟨h.1, h.2.1, rise_filter f r c h.2.2⟩
    · exact (rise_filter f r c h.2.2).mono (by have := h.1; omega)
theorem mrg_count {hi lo lo' l0 : Int} {x y : List Int} (h1 : Rise lo hi x) (h2 : Rise lo' hi y) (hl : l0 ≤ lo ∧ l0 ≤ lo') : (mrg x y).length = x.length + (y.filter fun z => !decide (z ∈ x)).length := by
  have e : mrg x y = mrg x (y.filter fun z => !decide (z ∈ x)) := by
    refine rise_ext _ _ l0 l0 (mrg_rise _ l0 x y (Nat.le_refl _) (h1.mono hl.1) (h2.mono hl.2)) (mrg_rise _ l0 _ _ (Nat.le_refl _) (h1.mono hl.1) ((rise_filter _ y lo' h2).mono hl.2)) (fun z => ?_)
    rw [mrg_mem _ _ _ (Nat.le_refl _), mrg_mem _ _ _ (Nat.le_refl _), List.mem_filter]
    by_cases c : z ∈ x
    · simp [c]
    · simp [c]
  rw [e]
  refine mrg_disj _ _ _ (Nat.le_refl _) (fun z hz hy => ?_)
  rw [List.mem_filter] at hy
  simp [hz] at hy
theorem rise_take {hi : Int} : ∀ (l : List Int) (lo : Int), Rise lo hi l → ∀ i (h : i < l.length), l[i] ∉ l.take i
  | [], _, _, i, h => by simp at h
  | c :: r, lo, hr, 0, h => by simp
  | c :: r, lo, hr, i + 1, h => by
    have h2 : i < r.length := by simpa using h
    rw [List.take_succ_cons, List.mem_cons]
    show ¬ (r[i] = c ∨ r[i] ∈ r.take i)
    intro hc
    rcases hc with hc | hc
    · have := (hr.2.2.mem r[i] (List.getElem_mem h2)).1
      omega
    · exact rise_take r c hr.2.2 i h2 hc
theorem rise_idx {hi : Int} : ∀ (l : List Int) (lo : Int), Rise lo hi l → ∀ i (h : i < l.length), Rise l[i] hi (l.drop (i + 1))
  | [], _, _, i, h => by simp at h
  | c :: r, lo, hr, 0, h => hr.2.2
  | c :: r, lo, hr, i + 1, h => rise_idx r c hr.2.2 i (by simpa using h)
def Inv (bx : List S36) (ids : List Int) (n p : Nat) : Prop :=
  p ≤ bx.length ∧ n ≤ ids.length ∧ (∀ b ∈ bx.drop p, b.f0 ∈ ids.drop n) ∧ (∀ b ∈ bx.take p, ∀ z ∈ ids.drop n, b.f0 < z)
theorem look_hit : ∀ (bx : List S36) (p : Nat) (hp : p < bx.length) (k : Int), (∀ b ∈ bx.take p, b.f0 ≠ k) → bx[p].f0 = k → look bx k = bx[p].f1
  | [], p, hp, _, _, _ => by simp at hp
  | b :: bs, 0, hp, k, _, h => by
    have h2 : b.f0 = k := h
    rw [look, if_pos h2]; rfl
  | b :: bs, p + 1, hp, k, ht, h => by
    rw [look, if_neg (ht b (by simp))]
    exact look_hit bs p (by simpa using hp) k (fun c hc => ht c (by rw [List.take_succ_cons]; exact List.mem_cons_of_mem _ hc)) h
theorem inv_step {bx : List S36} {ids : List Int} {lo lo' hi : Int} (hr : Rise lo hi ids) (hb : Rise lo' hi (bx.map S36.f0)) {n p : Nat} (h : Inv bx ids n p) (hn : n < ids.length) :
    (∃ hp : p < bx.length, bx[p].f0 = ids[n] ∧ look bx ids[n] = bx[p].f1 ∧ Inv bx ids (n + 1) (p + 1)) ∨ ((∀ hp : p < bx.length, bx[p].f0 ≠ ids[n]) ∧ look bx ids[n] = 0 ∧ Inv bx ids (n + 1) p) := by
  obtain ⟨h1, h2, h3, h4⟩ := h
  have hd : ids.drop n = ids[n] :: ids.drop (n + 1) := List.drop_eq_getElem_cons hn
  have hgt : ∀ z ∈ ids.drop (n + 1), ids[n] < z := fun z hz => ((rise_idx ids lo hr n hn).mem z hz).1
  have hbgt : ∀ hp : p < bx.length, ∀ b ∈ bx.drop (p + 1), bx[p].f0 < b.f0 := by
    intro hp b hbm
    have hm := rise_idx (bx.map S36.f0) lo' hb p (by rw [List.length_map]; exact hp)
    rw [List.getElem_map, ← List.map_drop] at hm
    exact (hm.mem b.f0 (List.mem_map.2 ⟨b, hbm, rfl⟩)).1
  have hlt : ∀ b ∈ bx.take p, b.f0 < ids[n] := fun b hbm => h4 b hbm _ (by rw [hd]; exact List.mem_cons_self)
  by_cases c : ∃ hp : p < bx.length, bx[p].f0 = ids[n]
  · obtain ⟨hp, e⟩ := c
    refine .inl ⟨hp, e, look_hit bx p hp _ (fun b hbm => by have := hlt b hbm; omega) e, by omega, by omega, fun b hbm => ?_, fun b hbm z hz => ?_⟩
    · have hm := h3 b (by rw [List.drop_eq_getElem_cons hp]; exact List.mem_cons_of_mem _ hbm)
      rw [hd, List.mem_cons] at hm
      rcases hm with hm | hm
      · have := hbgt hp b hbm; omega
      · exact hm
    · rw [List.take_succ_eq_append_getElem hp, List.mem_append] at hbm
      rcases hbm with hbm | hbm
      · exact h4 b hbm z (by rw [hd]; exact List.mem_cons_of_mem _ hz)
      · rw [List.mem_singleton] at hbm
        rw [hbm, e]; exact hgt z hz
  · have hne : ∀ hp : p < bx.length, bx[p].f0 ≠ ids[n] := fun hp e => c ⟨hp, e⟩
    have hge : ∀ b ∈ bx.drop p, ids[n] < b.f0 := by
      intro b hbm
      have hm := h3 b hbm
      rw [hd, List.mem_cons] at hm
      rcases hm with hm | hm
      · exfalso
        by_cases hp : p < bx.length
        · rw [List.drop_eq_getElem_cons hp, List.mem_cons] at hbm
          rcases hbm with hbm | hbm
          · exact hne hp (by rw [← hbm]; exact hm)
          · have g1 := hbgt hp b hbm
            have g2 := h3 bx[p] (by rw [List.drop_eq_getElem_cons hp]; exact List.mem_cons_self)
            rw [hd, List.mem_cons] at g2
            rcases g2 with g2 | g2
            · exact hne hp g2
            · have := hgt _ g2; omega
        · rw [List.drop_eq_nil_of_le (by omega)] at hbm
          simp at hbm
      · exact hgt _ hm
    refine .inr ⟨hne, look_none bx _ (fun b hbm => ?_), h1, by omega, fun b hbm => ?_, fun b hbm z hz => h4 b hbm z (by rw [hd]; exact List.mem_cons_of_mem _ hz)⟩
    · rw [← List.take_append_drop p bx, List.mem_append] at hbm
      rcases hbm with hbm | hbm
      · have := hlt b hbm; omega
      · have := hge b hbm; omega
    · have hm := h3 b hbm
      rw [hd, List.mem_cons] at hm
      rcases hm with hm | hm
      · have := hge b hbm; omega
      · exact hm
def pos (b : S36) : Bool := decide (0 < b.f1)
theorem inv_end {bx : List S36} {ids : List Int} {n p : Nat} (h : Inv bx ids n p) (hn : n = ids.length) : bx.drop p = [] ∧ p = bx.length := by
  obtain ⟨h1, _, h3, _⟩ := h
  have e : bx.drop p = [] := by
    cases hd : bx.drop p with
    | nil => rfl
    | cons b r =>
      have := h3 b (by rw [hd]; exact List.mem_cons_self)
      rw [hn, List.drop_length] at this
      simp at this
  have := congrArg List.length e
  rw [List.length_drop, List.length_nil] at this
  exact ⟨e, by omega⟩
theorem rd_look {bx : List S36} {ids : List Int} {n : Nat} (hn : n < ids.length) : rd (ids.map (look bx)) (n : Int) = look bx ids[n] := by
  unfold rd; rw [Int.toNat_natCast, List.getD_eq_getElem?_getD, List.getElem?_map, List.getElem?_eq_getElem hn]; rfl
theorem rd_ids {ids : List Int} {n : Nat} (hn : n < ids.length) : rd ids (n : Int) = ids[n] := by
  unfold rd; rw [Int.toNat_natCast, List.getD_eq_getElem?_getD, List.getElem?_eq_getElem hn]; rfl
theorem rd_bx {bx : List S36} {n : Nat} (hn : n < bx.length) : rd_T36 bx (n : Int) = bx[n] := by
  unfold rd_T36; rw [Int.toNat_natCast, List.getD_eq_getElem?_getD, List.getElem?_eq_getElem hn]; rfl
theorem bk_loop {bx : List S36} {ids : List Int} {lo lo' hi : Int} (hr : Rise lo hi ids) (hb : Rise lo' hi (bx.map S36.f0)) (hil : ids.length ≤ 1000000) : ∀ (d k n p : Nat) (acc : List S36), ids.length - n = d → acc.length ≤ n → Inv bx ids n p → d < k →
    span_Buckets.l0 k (ids.map (look bx)) acc ids (ids.length : Int) (n : Int) = some (acc ++ (bx.drop p).filter pos) := by
  intro d
  induction d with
  | zero =>
    intro k n p acc hd ha hI hk
    obtain ⟨k, rfl⟩ : ∃ m, k = m + 1 := ⟨k - 1, by omega⟩
    simp only [span_Buckets.l0]
    rw [if_neg (by omega), (inv_end hI (by have := hI.2.1; omega)).1]; simp
  | succ d ih =>
    intro k n p acc hd ha hI hk
    obtain ⟨k, rfl⟩ : ∃ m, k = m + 1 := ⟨k - 1, by omega⟩
    have hn : n < ids.length := by omega
    simp only [span_Buckets.l0]
    rw [if_pos (by omega), if_pos (by omega), if_pos (by omega), if_pos (by rw [List.length_map]; omega), rd_look hn, rd_ids hn, w64 (x := (n : Int) + 1) (by omega) (by omega)]
    rw [show (n : Int) + 1 = ((n + 1 : Nat) : Int) from by omega]
    rcases inv_step hr hb hI hn with ⟨hp, e1, e2, hI2⟩ | ⟨_, e2, hI2⟩
    · rw [e2, List.drop_eq_getElem_cons hp, List.filter_cons]
      by_cases c : 0 < bx[p].f1
      · rw [if_pos c, if_pos (by omega), ih k (n + 1) (p + 1) _ (by omega) (by simp; omega) hI2 (by omega), if_pos (show pos bx[p] = true from decide_eq_true c), ← e1, List.append_assoc]
        rfl
      · rw [if_neg c, ih k (n + 1) (p + 1) _ (by omega) (by omega) hI2 (by omega), if_neg (by unfold pos; rw [decide_eq_false c]; decide)]
    · rw [e2, if_neg (by omega)]
      exact ih k (n + 1) p _ (by omega) (by omega) hI2 (by omega)
theorem bk_none (ids : List Int) (hil : ids.length ≤ 1000000) : ∀ (d k n : Nat), ids.length - n = d → n ≤ ids.length → d < k → span_Buckets.l0 k [] [] ids (ids.length : Int) (n : Int) = some [] := by
  intro d
  induction d with
  | zero =>
    intro k n hd hn hk
    obtain ⟨k, rfl⟩ : ∃ m, k = m + 1 := ⟨k - 1, by omega⟩
    simp only [span_Buckets.l0]
    rw [if_neg (by omega)]
  | succ d ih =>
    intro k n hd hn hk
    obtain ⟨k, rfl⟩ : ∃ m, k = m + 1 := ⟨k - 1, by omega⟩
    simp only [span_Buckets.l0]
    rw [if_pos (by omega), if_pos (by omega), if_pos (by omega), if_neg (by rw [List.length_nil]; omega), w64 (by omega) (by omega)]
    exact ih k (n + 1) (by omega) (by omega) (by omega)
theorem inv_start {bx : List S36} {ids : List Int} (h : ∀ b ∈ bx, b.f0 ∈ ids) : Inv bx ids 0 0 := ⟨by omega, by omega, fun b hb => h b hb, fun b hb => by simp at hb⟩
theorem buckets_val {ids : List Int} (hx : Ids ids) {bx : List S36} {lo : Int} (hb : Rise lo 1000000 (bx.map S36.f0)) (hm : ∀ b ∈ bx, b.f0 ∈ ids) {k : Nat} (hk : 200000 ≤ k) :
    span_Buckets.f k (ofV ids).1 (ofV ids).2 (ids.map (look bx)) = some (bx.filter pos) := by
  have h1 := hx.len
  unfold span_Buckets.f
  rw [hx.ix (by omega), Option.bind_some]
  have := bk_loop hx.rise hb (by omega) ids.length k 0 0 [] (by omega) (by simp) (inv_start hm) (by omega)
  rw [List.drop_zero, List.nil_append] at this
  exact this
theorem buckets_none {ids : List Int} (hx : Ids ids) {k : Nat} (hk : 200000 ≤ k) : span_Buckets.f k (ofV ids).1 (ofV ids).2 [] = some [] := by
  have h1 := hx.len
  unfold span_Buckets.f
  rw [hx.ix (by omega), Option.bind_some]
  exact bk_none ids (by omega) ids.length k 0 (by omega) (by omega) (by omega)
theorem law_l2 {ids : List Int} (hx : Ids ids) (full : List S36) (hf : full.length ≤ 1000000) : ∀ (d k n : Nat), full.length - n = d → n ≤ full.length → 300000 + d < k → SJ.l2 k full full (full.length : Int) (n : Int) (ofV ids).1 (ofV ids).2 = some true := by
  intro d
  induction d with
  | zero =>
    intro k n hd hn hk
    obtain ⟨k, rfl⟩ : ∃ m, k = m + 1 := ⟨k - 1, by omega⟩
    simp only [SJ.l2]
    rw [if_neg (by omega), awake_any (by omega), Option.bind_some, if_pos rfl, buckets_none hx (by omega)]
    rfl
  | succ d ih =>
    intro k n hd hn hk
    obtain ⟨k, rfl⟩ : ∃ m, k = m + 1 := ⟨k - 1, by omega⟩
    simp only [SJ.l2]
    rw [if_pos (by omega), if_pos (by omega), if_pos (by omega), if_pos (by omega)]
    rw [show ((!((rd_T36 full (n : Int)).f0 == (rd_T36 full (n : Int)).f0)) || !((rd_T36 full (n : Int)).f1 == (rd_T36 full (n : Int)).f1)) = false from by simp, if_neg (by decide), w64 (by omega) (by omega)]
    exact ih k (n + 1) (by omega) (by omega) (by omega)
theorem law_l1 {ids : List Int} (hx : Ids ids) {bx : List S36} {lo : Int} (hb : Rise lo 1000000 (bx.map S36.f0)) (hbl : bx.length ≤ 10000) (hm : ∀ b ∈ bx, b.f0 ∈ ids) : ∀ (d k n p : Nat), ids.length - n = d → Inv bx ids n p → 400000 + 2 * d < k →
    SJ.l1 k bx (ids.map (look bx)) (p : Int) ((bx.take p).filter pos) ids (ids.length : Int) (n : Int) (ofV ids).1 (ofV ids).2 = some true := by
  have hil := hx.len
  have hfl : ∀ p, ((bx.take p).filter pos).length ≤ 10000 := fun p => by
    have h1 := List.length_filter_le pos (bx.take p)
    have h2 := List.length_take_le p bx
    rw [List.length_take] at h1
    omega
  intro d
  induction d with
  | zero =>
    intro k n p hd hI hk
    obtain ⟨k, rfl⟩ : ∃ m, k = m + 1 := ⟨k - 1, by omega⟩
    simp only [SJ.l1]
    have he := inv_end hI (by have := hI.2.1; omega)
    rw [if_neg (by omega), buckets_val hx hb hm (by omega), Option.bind_some, he.2, List.take_length, if_pos rfl]
    have h2 := hfl bx.length
    rw [List.take_length] at h2
    exact law_l2 hx (bx.filter pos) (by omega) _ k 0 rfl (by omega) (by omega)
  | succ d ih =>
    intro k n p hd hI hk
    obtain ⟨k, rfl⟩ : ∃ m, k = m + 1 := ⟨k - 1, by omega⟩
    have hn : n < ids.length := by omega
    have hp1 := hI.1
    simp only [SJ.l1]
    rw [if_pos (by omega), if_pos (by omega), if_pos (by omega), rd_ids hn]
    have hk2 : ∃ m, k = m + 1 := ⟨k - 1, by omega⟩
    have miss : (look bx ids[n] = 0) → Inv bx ids (n + 1) p → ∀ k, 400000 + 2 * (d + 1) ≤ k → SJ.j3 k bx (ids.map (look bx)) (p : Int) ((bx.take p).filter pos) (n : Int) 0 ids (ids.length : Int) (n : Int) false (ofV ids).1 (ofV ids).2 = some true := by
      intro e2 hI2 k hk
      obtain ⟨k, rfl⟩ : ∃ m, k = m + 1 := ⟨k - 1, by omega⟩
      simp only [SJ.j3, Bool.false_eq_true, if_false]
      rw [if_pos (by omega), if_pos (by rw [List.length_map]; omega), rd_look hn, if_pos e2, w64 (by omega) (by omega)]
      exact ih k (n + 1) p (by omega) hI2 (by omega)
    rcases inv_step hx.rise hb hI hn with ⟨hp, e1, e2, hI2⟩ | ⟨hne, e2, hI2⟩
    · rw [if_pos (by omega), if_pos (by omega), rd_bx hp, beq_iff_eq.2 e1]
      obtain ⟨k, rfl⟩ := hk2
      simp only [SJ.j3, if_true]
      rw [if_pos (by omega), if_pos (by omega), rd_bx hp, w64 (x := (p : Int) + 1) (by omega) (by omega), w64 (x := (n : Int) + 1) (by omega) (by omega)]
      have h := ih k (n + 1) (p + 1) (by omega) hI2 (by omega)
      rw [List.take_succ_eq_append_getElem hp, List.filter_append, List.filter_cons, List.filter_nil] at h
      have hfl2 := hfl p
      by_cases c : 0 < bx[p].f1
      · rw [if_pos (show pos bx[p] = true from decide_eq_true c)] at h
        rw [if_pos c, if_pos (by omega), if_pos (by omega), if_pos (by rw [List.length_map]; omega), rd_look hn, if_pos e2]
        exact h
      · rw [if_neg (by unfold pos; rw [decide_eq_false c]; decide), List.append_nil] at h
        rw [if_neg c, if_pos (by omega), if_pos (by rw [List.length_map]; omega), rd_look hn, if_pos e2]
        exact h
    · by_cases hp : p < bx.length
      · rw [if_pos (by omega), if_pos (by omega), rd_bx hp, beq_eq_false_iff_ne.2 (hne hp)]
        exact miss e2 hI2 k (by omega)
      · rw [if_neg (by omega)]
        exact miss e2 hI2 k (by omega)
theorem law_l0 {ids : List Int} (hx : Ids ids) {x y : List Int} (hxy : ∀ z ∈ ids, z ∈ x ∨ z ∈ y) {bx : List S36} {lo : Int} (hb : Rise lo 1000000 (bx.map S36.f0)) (hbl : bx.length ≤ 10000) (hm : ∀ b ∈ bx, b.f0 ∈ ids) : ∀ (d k n : Nat), ids.length - n = d → n ≤ ids.length → 500000 + d < k →
    SJ.l0 k bx x y ids ids (ids.length : Int) (n : Int) (ofV ids).1 (ofV ids).2 = some true := by
  have hil := hx.len
  intro d
  induction d with
  | zero =>
    intro k n hd hn hk
    obtain ⟨k, rfl⟩ : ∃ m, k = m + 1 := ⟨k - 1, by omega⟩
    simp only [SJ.l0]
    rw [if_neg (by omega), counts_val hx hb hbl (by omega), Option.bind_some, if_pos (by rw [List.length_map])]
    have := law_l1 hx hb hbl hm ids.length k 0 0 (by omega) (inv_start hm) (by omega)
    rw [List.take_zero] at this
    exact this
  | succ d ih =>
    intro k n hd hn hk
    obtain ⟨k, rfl⟩ : ∃ m, k = m + 1 := ⟨k - 1, by omega⟩
    have hlt : n < ids.length := by omega
    simp only [SJ.l0]
    unfold gosem_cut.f
    have hne : ¬ mapAt x y ids[n] = 0 := by
      have h := hxy _ (List.getElem_mem hlt)
      unfold mapAt
      by_cases a : ids[n] ∈ x
      · rw [if_pos a]; split <;> omega
      · rw [if_neg a, if_pos (h.resolve_left a)]; omega
    rw [if_pos (by omega), if_pos (by omega), if_pos (by omega), rd_ids hlt, Option.bind_some, if_neg hne, w64 (x := (n : Int) + 1) (by omega) (by omega)]
    have next := ih k (n + 1) (by omega) (by omega) (by omega)
    rw [show ((n + 1 : Nat) : Int) = (n : Int) + 1 from by omega] at next
    by_cases c : n = 0
    · rw [if_neg (by omega)]; exact next
    · have hp : n - 1 < ids.length := by omega
      have hgt := ((rise_idx ids _ hx.rise (n - 1) hp).mem ids[n] (by
        rw [show n - 1 + 1 = n from by omega, List.drop_eq_getElem_cons hlt]; exact List.mem_cons_self)).1
      rw [if_pos (by omega), w64 (by omega) (by omega), if_pos (by omega), if_pos (by omega), show (n : Int) - 1 = ((n - 1 : Nat) : Int) from by omega, rd_ids hp, if_neg (by omega)]
      exact next
theorem main_k (l0 l1 l4 : List Int) (a2 a3 : Int) (h0 : ∀ x ∈ l0, 0 ≤ x ∧ x ≤ 255) (h1 : ∀ x ∈ l1, 0 ≤ x ∧ x ≤ 255) (h2 : -32768 ≤ a2 ∧ a2 ≤ 32767) (h3 : -32768 ≤ a3 ∧ a3 ≤ 32767) (c0 : l0.length ≤ 200) (c1 : l1.length ≤ 200) (k : Nat) (hk : 600000 ≤ k) :
    SJ.f k 0 0 0 0 0 0 0 0 0 0 false (risB a2 0 l0 l4) (risIds a2 l0) (risB a3 0 l1 l4) (risIds a3 l1) 0 (((risIds a2 l0).length + ((risIds a3 l1).filter fun z => !decide (z ∈ risIds a2 l0)).length : Nat) : Int) 0 0 0 (decide (∀ z ∈ risIds a3 l1, z ∈ risIds a2 l0)) = some true := by
  obtain ⟨rx, ix⟩ := same_rise h0 c0 h2
  obtain ⟨ry, iy⟩ := same_rise h1 c1 h3
  have lx : (risIds a2 l0).length = l0.length := risIds_len l0 a2
  have ly : (risIds a3 l1).length = l1.length := risIds_len l1 a3
  have hbx : (risB a2 0 l0 l4).map S36.f0 = risIds a2 l0 := risB_ids l0 l4 a2 0
  have hbl : (risB a2 0 l0 l4).length = l0.length := by
    have := congrArg List.length hbx
    rw [List.length_map] at this
    omega
  have im := ix.join iy (by omega)
  have rm := mrg_rise _ (-40000) _ _ (Nat.le_refl _) rx ry
  have rm2 := mrg_rise _ (-40000) _ _ (Nat.le_refl _) ry rx
  have mem1 : ∀ z, z ∈ mrg (risIds a2 l0) (risIds a3 l1) ↔ z ∈ risIds a2 l0 ∨ z ∈ risIds a3 l1 := mrg_mem _ _ _ (Nat.le_refl _)
  have mem2 : ∀ z, z ∈ mrg (risIds a3 l1) (risIds a2 l0) ↔ z ∈ risIds a3 l1 ∨ z ∈ risIds a2 l0 := mrg_mem _ _ _ (Nat.le_refl _)
  have hcnt := mrg_count rx ry (l0 := -40000) ⟨by omega, by omega⟩
  have e1 : hasGo (risIds a2 l0) (risIds a3 l1) = decide (∀ z ∈ risIds a3 l1, z ∈ risIds a2 l0) := by
    rw [Bool.eq_iff_iff, decide_eq_true_iff]; exact has_iff _ _ _ _ _ (Nat.le_refl _) rx ry
  have e2 : hasGo (mrg (risIds a2 l0) (risIds a3 l1)) (risIds a2 l0) = true := (has_iff _ _ _ _ _ (Nat.le_refl _) rm rx).2 (fun z hz => (mem1 z).2 (.inl hz))
  have e3 : hasGo (mrg (risIds a2 l0) (risIds a3 l1)) (risIds a3 l1) = true := (has_iff _ _ _ _ _ (Nat.le_refl _) rm ry).2 (fun z hz => (mem1 z).2 (.inr hz))
  have e4 : mrg (risIds a2 l0) (risIds a3 l1) = mrg (risIds a3 l1) (risIds a2 l0) := rise_ext _ _ _ _ rm rm2 (fun z => by rw [mem1, mem2]; exact Or.comm)
  unfold SJ.f
  rw [of_ris h0 (by omega) h2 (by omega), Option.bind_some, of_ris h1 (by omega) h3 (by omega), Option.bind_some, join_val ix iy (by omega), Option.bind_some, im.ix (by have := im.len; omega), Option.bind_some, has_val ix iy (by omega), Option.bind_some, e1, bne_self_eq_false, if_neg (by decide), hcnt, if_pos rfl, has_val im ix (by omega), Option.bind_some, if_pos e2, has_val im iy (by omega), Option.bind_some, if_pos e3, join_val iy ix (by omega), Option.bind_some, same_val im (by omega), Option.bind_some, decide_eq_true e4]
  obtain ⟨k, rfl⟩ : ∃ m, k = m + 1 := ⟨k - 1, by omega⟩
  simp only [SJ.j0, Bool.not_true, Bool.false_eq_true, if_false]
  refine law_l0 im (fun z hz => (mem1 z).1 hz) (lo := -100000) (by rw [hbx]; exact ix.rise) (by omega) (fun b hb => ?_) _ k 0 rfl (by omega) (by have := im.len; omega)
  rw [mem1, ← hbx]
  exact .inl (List.mem_map.2 ⟨b, hb, rfl⟩)
end Go.Proofs.Ytpdhcgicnhgfoaa.Pure.LSpanJoins
