/- SpanJoins answers true: its walk and what it computes, joined. Its conditions: bytes, 16-bit and 64-bit numbers, as their kinds say. -/
import Derived.Test.YtpdhcgicnhgfoaaQJoinT
import Derived.Test.YtpdhcgicnhgfoaaPureSpanJoins
namespace Go.Proofs.Ytpdhcgicnhgfoaa.JoinEnd
open Go.RowKit Go.Proofs.Ytpdhcgicnhgfoaa Go.Proofs.Ytpdhcgicnhgfoaa.QSpanJoins Go.Proofs.YtpdhcgicnhgfoaaW.PrintWords Go.Proofs.YtpdhcgicnhgfoaaW.PrintLast Go.Proofs.YtpdhcgicnhgfoaaW.PrintMore Pure.LSpanJoins
theorem ids_are {l0 l1 l4 : List Int} {a2 a3 : Int} (h0 : ∀ x ∈ l0, 0 ≤ x ∧ x ≤ 255) (h1 : ∀ x ∈ l1, 0 ≤ x ∧ x ≤ 255) (h2 : -32768 ≤ a2 ∧ a2 ≤ 32767) (h3 : -32768 ≤ a3 ∧ a3 ≤ 32767) (c0 : l0.length ≤ 200) (c1 : l1.length ≤ 200) :
    ∀ p q j ids, span_Of.f 600000 (risB a2 0 l0 l4) = some p → span_Of.f 600000 (risB a3 0 l1 l4) = some q → span_Join.f 600000 p.1 p.2 q.1 q.2 = some j → span_Indices.f 600000 j.1 j.2 = some ids → ∀ x ∈ ids, -1000000000 ≤ x ∧ x ≤ 1000000000 := by
  intro p q j ids hp hq hj hi x hx
  obtain ⟨_, ix⟩ := same_rise h0 c0 h2
  obtain ⟨_, iy⟩ := same_rise h1 c1 h3
  rw [of_ris h0 (by omega) h2 (by omega)] at hp
  rw [of_ris h1 (by omega) h3 (by omega)] at hq
  obtain rfl := Option.some.inj hp
  obtain rfl := Option.some.inj hq
  have lx : (risIds a2 l0).length = l0.length := risIds_len l0 a2
  have ly : (risIds a3 l1).length = l1.length := risIds_len l1 a3
  rw [join_val ix iy (by omega)] at hj
  obtain rfl := Option.some.inj hj
  have im := ix.join iy (by omega)
  rw [im.ix (by have := im.len; omega)] at hi
  obtain rfl := Option.some.inj hi
  have := im.rise.mem x hx
  omega
theorem walk (A0 A1 A4 : Option Addr) (c0 c1 c4 : Nat) (l0 l1 l4 : List Int) (a2 a3 : Int) (w : World)
    (hr0 : Kd.C (Kd.int .u8) w A0 l0.length l0) (hc0 : l0.length ≤ c0) (hr1 : Kd.C (Kd.int .u8) w A1 l1.length l1) (hc1 : l1.length ≤ c1) (hr4 : Kd.C (Kd.int .u64) w A4 l4.length l4) (hc4 : l4.length ≤ c4)
    (h0 : ∀ x ∈ l0, 0 ≤ x ∧ x ≤ 255) (h1 : ∀ x ∈ l1, 0 ≤ x ∧ x ≤ 255) (h2 : -32768 ≤ a2 ∧ a2 ≤ 32767) (h3 : -32768 ≤ a3 ∧ a3 ≤ 32767) (h4 : l4.length ≤ 4611686018427387904) :
    Calls Try.prog 4 #[.slice A0 l0.length c0, .slice A1 l1.length c1, .int .i16 a2, .int .i16 a3, .slice A4 l4.length c4] w fun e w' => e = .returned (.bool true) ∧ Below w.heap.size w w' := by
  by_cases c : 200 < l0.length ∨ 200 < l1.length
  · exact joins_awake 600000 A0 A1 A4 c0 c1 c4 l0 l1 l4 a2 a3 w c (awake_any (by omega))
  · have d0 : l0.length ≤ 200 := by omega
    have d1 : l1.length ≤ 200 := by omega
    obtain ⟨_, ix⟩ := same_rise h0 d0 h2
    obtain ⟨_, iy⟩ := same_rise h1 d1 h3
    have lx : (risIds a2 l0).length = l0.length := risIds_len l0 a2
    have ly : (risIds a3 l1).length = l1.length := risIds_len l1 a3
    exact joins_calls 600000 A0 A1 A4 c0 c1 c4 l0 l1 l4 a2 a3 (risB a2 0 l0 l4) (risIds a2 l0) (risB a3 0 l1 l4) (risIds a3 l1) true ⟨rfl⟩ w hr0 hc0 hr1 hc1 hr4 hc4 d0 d1
      (ris_val l0 l4 a2 h0 (by omega) h4 h2 (by omega)) (ris_val l1 l4 a3 h1 (by omega) h4 h3 (by omega))
      (fun x hx => by have := ix.rise.mem x hx; omega) (fun x hx => by have := iy.rise.mem x hx; omega) (by omega) (by omega) (ids_are h0 h1 h2 h3 d0 d1)
      (rise_take _ _ ix.rise) (rise_take _ _ iy.rise) (main_k l0 l1 l4 a2 a3 h0 h1 h2 h3 d0 d1 600000 (Nat.le_refl _))
end Go.Proofs.Ytpdhcgicnhgfoaa.JoinEnd
