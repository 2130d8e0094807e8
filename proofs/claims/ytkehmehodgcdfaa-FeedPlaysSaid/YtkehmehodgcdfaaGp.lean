/- The reference's Add over numbered entries is the feed's push. -/
import Derived.Test.YtkehmehodgcdfaaGo
namespace Go.Proofs.Ytkehmehodgcdfaa
open Vb

theorem numbered_snoc (f : Nat) (ds : List Delta) (d : Delta) : numbered f (ds ++ [d]) = numbered f ds ++ [(((f + ds.length : Nat) : Int), d)] := by
  simp [numbered, List.zipIdx_append]
theorem numbered_drop1 (f : Nat) (ds : List Delta) : (numbered f ds).drop 1 = numbered (f + 1) (ds.drop 1) := by
  cases ds with
  | nil => rfl
  | cons d ds => simp [numbered, List.zipIdx_cons]
theorem radd_numbered (last : Nat) (ds : List Delta) (d : Delta) (h12 : ds.length ≤ 12) (hle : ds.length ≤ last) :
    (if 12 < (numbered (last - ds.length + 1) ds ++ [(((last + 1 : Nat) : Int), d)]).length then (numbered (last - ds.length + 1) ds ++ [(((last + 1 : Nat) : Int), d)]).drop ((numbered (last - ds.length + 1) ds ++ [(((last + 1 : Nat) : Int), d)]).length - 12) else numbered (last - ds.length + 1) ds ++ [(((last + 1 : Nat) : Int), d)]) = numbered (last + 1 - (push ds d).length + 1) (push ds d) := by
  have e : numbered (last - ds.length + 1) ds ++ [(((last + 1 : Nat) : Int), d)] = numbered (last - ds.length + 1) (ds ++ [d]) := by
    rw [numbered_snoc, show last - ds.length + 1 + ds.length = last + 1 by omega]
  rw [e, numbered_length, List.length_append, List.length_singleton]
  unfold push
  by_cases h : ds.length = 12
  · rw [if_pos (by omega), if_pos h, show ds.length + 1 - 12 = 1 by omega, numbered_drop1]
    have e2 : (ds ++ [d]).drop 1 = ds.drop 1 ++ [d] := by rw [List.drop_append_of_le_length (by omega)]
    rw [e2, List.length_append, List.length_drop, List.length_singleton]
    congr 1
    omega
  · rw [if_neg (by omega), if_neg h, List.length_append, List.length_singleton]
    congr 1
    omega
end Go.Proofs.Ytkehmehodgcdfaa
