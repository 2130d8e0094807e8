/- The reference's Poll over numbered entries is the feed's list. -/
import Derived.Test.YtkehmehodgcdfaaGn
namespace Go.Proofs.Ytkehmehodgcdfaa
open Vb

theorem rpoll_numbered (f : Nat) (ds : List Delta) (after most : Int) (ha : 0 ≤ after) (hm : 1 ≤ most) : rpoll (numbered f ds) after most = ((numbered f ds).drop (after.toNat + 1 - f)).take most.toNat := by
  suffices h : ∀ i, i ≤ (numbered f ds).length → rpoll ((numbered f ds).take i) after most = (((numbered f ds).take i).drop (after.toNat + 1 - f)).take most.toNat by
    have := h _ (Nat.le_refl _)
    rwa [List.take_length] at this
  intro i
  induction i with
  | zero => intro _; simp [rpoll]
  | succ i ih =>
    intro hi
    have hlt : i < (numbered f ds).length := hi
    have hg := numbered_get f ds i
    rw [List.getElem?_eq_getElem hlt] at hg
    obtain ⟨d, hd, he⟩ := Option.map_eq_some_iff.1 hg.symm
    have he1 : (numbered f ds)[i].1 = ((f + i : Nat) : Int) := by rw [← he]
    have hih := ih (by omega)
    have hlen : ((numbered f ds).take i).length = i := by rw [List.length_take]; omega
    rw [List.take_succ_eq_append_getElem hlt, rpoll_snoc, hih, he1]
    by_cases hk : after.toNat + 1 - f ≤ i
    · rw [List.drop_append_of_le_length (by omega)]
      by_cases hl : ((((numbered f ds).take i).drop (after.toNat + 1 - f)).take most.toNat).length < most.toNat
      · rw [if_pos ⟨by omega, by omega⟩]
        rw [List.length_take, List.length_drop, hlen] at hl
        rw [List.take_of_length_le (l := List.drop (after.toNat + 1 - f) ((numbered f ds).take i)) (by rw [List.length_drop, hlen]; omega), List.take_of_length_le (l := List.drop (after.toNat + 1 - f) ((numbered f ds).take i) ++ [(numbered f ds)[i]]) (by rw [List.length_append, List.length_drop, hlen, List.length_singleton]; omega)]
      · rw [if_neg (fun h => hl (by have := h.2; omega))]
        rw [List.length_take, List.length_drop, hlen] at hl
        rw [List.take_append_of_le_length (by rw [List.length_drop, hlen]; omega)]
    · rw [if_neg (fun h => by have := h.1; omega)]
      rw [List.drop_of_length_le (by omega), List.drop_of_length_le (by rw [List.length_append, List.length_singleton]; omega)]
theorem rcode_eq (last : Nat) (n : Nat) (after most : Int) : rcode last n after most = pollCode last n after most := by
  unfold rcode pollCode
  repeat' split
  all_goals first | rfl | omega
end Go.Proofs.Ytkehmehodgcdfaa
