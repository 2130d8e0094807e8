/- For every slice of ints and every int the Go function rhizomelaw06.TreeFlat returns true and leaves its arguments as they were (Rows.TreeFlatSaid). No condition. -/
import Derived.Test.YtmneommbdfapfaaTt
namespace Go.Proofs.Ytmneommbdfapfaa
open Vb Go.RowKit

set_option maxRecDepth 100000 in
theorem treeFlat_lifted (os : Os) (started : os.Started) (H : Type) (enc : TypeId × Value → H) :
    ReturnsInHanded {} Try.checked os 5 .any (Rows.treeFlatSpec.pre6 enc Try.prog Try.f5 Rows.treeFlatRow.domain false) (Rows.treeFlatSpec.post enc Try.prog Try.f5 false true false false) := by
  refine returnsInHanded_of_change_sized (C := Try.checked) Try.own started (by kernel_rfl) Try.func5
    (ChangeSpec.witness6 (enc := enc) (C := Try.checked) false ⟨#[], #[.slice none 0 0, .int .i64 0], []⟩ 8 (by kernel_rfl) (by kernel_rfl) (by kernel_rfl) (by kernel_rfl)) ?_
  intro W base args ds gs before hval0 hW _ hsz _
  have hval : ∀ (j : Nat) t v, Try.f5.params[j]? = some t → args[j]? = some v → Value.okWide Try.prog W .any base t v := hval0
  have hW' := hW
  obtain ⟨p, q, hA0, hV, rfl, _, _⟩ := hW
  have hA : DataW.TrodAll enc Try.prog W 0 (fun _ => true) true Try.f5.params.toList args.toList ds p := hA0
  rw [Try.params5] at hA hval
  obtain ⟨v0, v1, d0, d1, p0, p1, rfl, rfl, rfl, h0, h1⟩ := ChangeShapes.trodAll_two hA
  obtain ⟨rfl, rfl⟩ := ChangeShapes.trodVars_none hV
  obtain ⟨a0, len, cap, rfl⟩ := WideShapes.okWide_slice Try.underlying42 (hval 0 42 _ rfl rfl)
  obtain ⟨x, rfl⟩ := WideShapes.okWide_int Try.underlying3 (hval 1 3 _ rfl rfl)
  obtain ⟨xs, v, hv, hx⟩ := open_arg (Opens.slice (t := 42) (Opens.int Try.underlying3)) hsz 0 rfl rfl h0
  simp only [Value.cells, List.cons.injEq, and_true] at hv
  subst hv
  have hI : Ints (Old W) W _ xs := Sl.mono (fun _ h => h) (fun _ _ h => h.1) hx
  refine (treeFlat_spec (Old W) _ xs x W hI (fun _ h => h)).calls (fun v w' hr => ?_)
  obtain ⟨rfl, hk⟩ := hr
  exact ⟨_, rfl, law_post Try.laidOut (by rw [Try.params5]; decide +kernel) rfl rfl Try.underlying4 hW' rfl hk.below⟩

theorem treeFlat_holds : Rows.TreeFlatSaid :=
  OpenClaim.holds_of_wide 5 Try.f5 rfl rfl rfl rfl rfl rfl rfl ⟨rfl, rfl, rfl, rfl, rfl⟩ rfl rfl rfl rfl rfl (by kernel_rfl) Try.func5 (by kernel_rfl)
    (of_decide_eq_true (by kernel_rfl)) (by unfold Func.isWrapper; first | (rw [if_pos (by decide +kernel)]; kernel_rfl) | (rw [if_neg (by decide +kernel)]; exact ⟨rfl, rfl⟩))
    (fun os started H enc _ => treeFlat_lifted os started H enc)
#print axioms treeFlat_holds
end Go.Proofs.Ytmneommbdfapfaa
