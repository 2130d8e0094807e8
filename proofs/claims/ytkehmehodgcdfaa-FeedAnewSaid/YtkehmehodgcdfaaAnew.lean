/- For every int and every slice of deltas the Go function rhizomelaw20.FeedAnew returns true and leaves its arguments as they were (Rows.FeedAnewSaid). No condition. -/
import Derived.Test.YtkehmehodgcdfaaFh
namespace Go.Proofs.Ytkehmehodgcdfaa
open Vb Go.RowKit

set_option maxRecDepth 100000 in
theorem feedAnew_lifted (os : Os) (started : os.Started) (H : Type) (enc : TypeId × Value → H) :
    ReturnsInHanded {} Try.checked os 6 .any (Rows.feedAnewSpec.pre6 enc Try.prog Try.f6 Rows.feedAnewRow.domain false) (Rows.feedAnewSpec.post enc Try.prog Try.f6 false true false false) := by
  refine returnsInHanded_of_change_sized (C := Try.checked) Try.own started (by kernel_rfl) Try.func6
    (ChangeSpec.witness6 (enc := enc) (C := Try.checked) false ⟨#[], #[.int .i64 0, .slice none 0 0], []⟩ 8 (by kernel_rfl) (by kernel_rfl) (by kernel_rfl) (by kernel_rfl)) ?_
  intro W base args ds gs before hval0 hW _ hsz _
  have hval : ∀ (j : Nat) t v, Try.f6.params[j]? = some t → args[j]? = some v → Value.okWide Try.prog W .any base t v := hval0
  have hW' := hW
  obtain ⟨p, q, hA0, hV, rfl, _, _⟩ := hW
  have hA : DataW.TrodAll enc Try.prog W 0 (fun _ => true) true Try.f6.params.toList args.toList ds p := hA0
  rw [Try.params6] at hA hval
  obtain ⟨v0, v1, d0, d1, p0, p1, rfl, rfl, rfl, h0, h1⟩ := ChangeShapes.trodAll_two hA
  obtain ⟨rfl, rfl⟩ := ChangeShapes.trodVars_none hV
  obtain ⟨x, rfl⟩ := WideShapes.okWide_int Try.underlying3 (hval 0 3 _ rfl rfl)
  obtain ⟨a0, len, cap, rfl⟩ := WideShapes.okWide_slice Try.underlying64 (hval 1 64 _ rfl rfl)
  obtain ⟨xs, v, hv, hx⟩ := open_arg (Opens.slice (t := 64) Opens.delta) hsz 1 rfl rfl h1
  simp only [Value.cells, List.cons.injEq, and_true] at hv
  subst hv
  refine (feedAnew_spec (Old W) x _ xs W (fun _ h => h) hx).calls (fun v w' hr => ?_)
  obtain ⟨rfl, hk⟩ := hr
  exact ⟨_, rfl, law_post Try.laidOut (by rw [Try.params6]; decide +kernel) rfl rfl Try.underlying4 hW' rfl hk.below⟩

theorem feedAnew_holds : Rows.FeedAnewSaid :=
  OpenClaim.holds_of_wide 6 Try.f6 rfl rfl rfl rfl rfl rfl rfl ⟨rfl, rfl, rfl, rfl, rfl⟩ rfl rfl rfl rfl rfl (by kernel_rfl) Try.func6 (by kernel_rfl)
    (of_decide_eq_true (by kernel_rfl)) (by unfold Func.isWrapper; first | (rw [if_pos (by decide +kernel)]; kernel_rfl) | (rw [if_neg (by decide +kernel)]; exact ⟨rfl, rfl⟩))
    (fun os started H enc _ => feedAnew_lifted os started H enc)
#print axioms feedAnew_holds
end Go.Proofs.Ytkehmehodgcdfaa
