/- rhizomeref20.Poll. -/
import Derived.Test.YtkehmehodgcdfaaGl
namespace Go.Proofs.Ytkehmehodgcdfaa
open Vb Go.RowKit

def rpoll (es : List (Int × Delta)) (after most : Int) : List (Int × Delta) := es.foldl (fun out e => if after < e.1 ∧ (out.length : Int) < most then out ++ [e] else out) []
theorem rpoll_snoc (es : List (Int × Delta)) (e : Int × Delta) (after most : Int) : rpoll (es ++ [e]) after most = if after < e.1 ∧ ((rpoll es after most).length : Int) < most then rpoll es after most ++ [e] else rpoll es after most := by
  unfold rpoll
  rw [List.foldl_append]; rfl
theorem rpoll_len (es : List (Int × Delta)) (after most : Int) : (rpoll es after most).length ≤ es.length := by
  suffices h : ∀ (l out : List (Int × Delta)), (l.foldl (fun out e => if after < e.1 ∧ (out.length : Int) < most then out ++ [e] else out) out).length ≤ out.length + l.length by
    have := h es []
    simpa [rpoll] using this
  intro l
  induction l with
  | nil => intro out; simp
  | cons e l ih =>
    intro out
    rw [List.foldl_cons]
    have := ih (if after < e.1 ∧ (out.length : Int) < most then out ++ [e] else out)
    rw [List.length_cons]
    split at this
    · rw [List.length_append, List.length_singleton] at this
      rename_i hc; rw [if_pos hc]; omega
    · rename_i hc; rw [if_neg hc]; omega
end Go.Proofs.Ytkehmehodgcdfaa
