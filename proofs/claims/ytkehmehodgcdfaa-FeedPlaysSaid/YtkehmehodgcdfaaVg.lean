/- A slice's cells, all of them in a row; rows one behind the other. No program is named here. -/
import Derived.Test.YtkehmehodgcdfaaVe
namespace Go.Proofs.Ytkehmehodgcdfaa.Vb
open Go.RowKit

theorem drop_app (cs ns : List Value) (g i sz : Nat) (h : cs.length = g * sz) : ((cs ++ ns).drop ((g + i) * sz)).take sz = (ns.drop (i * sz)).take sz := by
  rw [List.drop_append, List.drop_eq_nil_of_le (by rw [h, Nat.add_mul]; omega), List.nil_append, h, Nat.add_mul, Nat.add_sub_cancel_left]
theorem drop_old (cs ns : List Value) (g j sz : Nat) (h : cs.length = g * sz) (hj : j < g) : ((cs ++ ns).drop (j * sz)).take sz = (cs.drop (j * sz)).take sz := by
  have h1 : (j + 1) * sz ≤ g * sz := Nat.mul_le_mul_right sz hj
  rw [Nat.add_mul, Nat.one_mul] at h1
  rw [List.drop_append_of_le_length (by omega), List.take_append_of_le_length (by simp; omega)]
/-- The cells of all elements. -/
theorem Sl.flat {α : Type} {F : Nat → Prop} {sz bytes : Nat} {R : World → List Value → α → Prop} {w : World} {A : Option Addr} {n c : Nat} {xs : List α} (h : Sl F sz bytes R w (.slice A n c) xs) (h0 : 0 < xs.length) (hone : ∀ cs x, R w cs x → ∀ u ∈ cs, u.oneCell' = true) :
    ∃ b o cs, A = some ⟨b, o, none⟩ ∧ F b ∧ cs.length = xs.length * sz ∧ Cells w b o cs ∧ (∀ u ∈ cs, u.oneCell' = true) ∧ ∀ i x, xs[i]? = some x → R w ((cs.drop (i * sz)).take sz) x := by
  obtain ⟨A', c', hv, _, _, _, he⟩ := h.open_
  simp only [Value.slice.injEq] at hv
  obtain ⟨rfl, rfl, rfl⟩ := hv
  obtain ⟨b, o, _, hA, hF, _⟩ := he 0 h0
  subst hA
  have key : ∀ m, m ≤ xs.length → ∃ cs, cs.length = m * sz ∧ Cells w b o cs ∧ (∀ u ∈ cs, u.oneCell' = true) ∧ ∀ i x, i < m → xs[i]? = some x → R w ((cs.drop (i * sz)).take sz) x := by
    intro m
    induction m with
    | zero => exact fun _ => ⟨[], by simp, fun j u hj => (by simp at hj), fun u hu => (by cases hu), fun i x hi => absurd hi (Nat.not_lt_zero _)⟩
    | succ m ih =>
      intro hm
      obtain ⟨cs, h1, h2, h3, h4⟩ := ih (by omega)
      obtain ⟨b', o', cs1, e1, _, g1, g2, g3⟩ := he m (by omega)
      simp only [Option.some.injEq, Addr.mk.injEq] at e1
      obtain ⟨rfl, rfl, _⟩ := e1
      refine ⟨cs ++ cs1, by rw [List.length_append, h1, g1, Nat.add_mul, Nat.one_mul], fun j u hj => ?_, fun u hu => ?_, fun i x hi hx => ?_⟩
      · by_cases hj' : j < cs.length
        · rw [List.getElem?_append_left hj'] at hj
          exact h2 j u hj
        · rw [List.getElem?_append_right (by omega)] at hj
          have := g2 _ u hj
          rw [h1] at this
          rw [show o + j = o + m * sz + (j - m * sz) by omega]
          exact this
      · rcases List.mem_append.1 hu with hu | hu
        · exact h3 u hu
        · exact hone cs1 _ g3 u hu
      · by_cases hi' : i = m
        · subst hi'
          have e : ((cs ++ cs1).drop (i * sz)).take sz = cs1 := by
            have := drop_app cs cs1 i 0 sz h1
            rw [Nat.add_zero, Nat.zero_mul, List.drop_zero, ← g1, List.take_length, g1] at this
            exact this
          rw [e]
          rw [List.getElem?_eq_getElem (by omega)] at hx
          simp only [Option.some.injEq] at hx
          subst hx
          exact g3
        · rw [drop_old cs cs1 m i sz h1 (by omega)]
          exact h4 i x (by omega) hx
  obtain ⟨cs, h1, h2, h3, h4⟩ := key xs.length (Nat.le_refl _)
  exact ⟨b, o, cs, rfl, hF, h1, h2, h3, fun i x hx => h4 i x (List.getElem?_eq_some_iff.1 hx).1 hx⟩
end Go.Proofs.Ytkehmehodgcdfaa.Vb
