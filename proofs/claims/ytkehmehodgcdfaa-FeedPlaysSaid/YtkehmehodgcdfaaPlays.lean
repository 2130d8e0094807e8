/- For every int, every slice of entries and every slice of calls the Go function rhizomelaw20.FeedPlays returns true and leaves its arguments as they were (Rows.FeedPlaysSaid). No condition. -/
import Derived.Test.YtkehmehodgcdfaaGz
namespace Go.Proofs.Ytkehmehodgcdfaa
open Vb Go.RowKit

set_option maxRecDepth 100000 in
theorem feedPlays_lifted (os : Os) (started : os.Started) (H : Type) (enc : TypeId × Value → H) :
    ReturnsInHanded {} Try.checked os 5 .any (Rows.feedPlaysSpec.pre6 enc Try.prog Try.f5 Rows.feedPlaysRow.domain false) (Rows.feedPlaysSpec.post enc Try.prog Try.f5 false true false false) := by
  refine returnsInHanded_of_change_sized (C := Try.checked) Try.own started (by kernel_rfl) Try.func5
    (ChangeSpec.witness6 (enc := enc) (C := Try.checked) false ⟨#[], #[.int .i64 0, .slice none 0 0, .slice none 0 0], []⟩ 8 (by kernel_rfl) (by kernel_rfl) (by kernel_rfl) (by kernel_rfl)) ?_
  intro W base args ds gs before hval0 hW _ hsz _
  have hval : ∀ (j : Nat) t v, Try.f5.params[j]? = some t → args[j]? = some v → Value.okWide Try.prog W .any base t v := hval0
  have hW' := hW
  obtain ⟨p, q, hA0, hV, rfl, _, _⟩ := hW
  have hA : DataW.TrodAll enc Try.prog W 0 (fun _ => true) true Try.f5.params.toList args.toList ds p := hA0
  rw [Try.params5] at hA hval
  obtain ⟨v0, v1, v2, d0, d1, d2, p0, p1, p2, rfl, rfl, rfl, h0, h1, h2⟩ := ChangeShapes.trodAll_three hA
  obtain ⟨rfl, rfl⟩ := ChangeShapes.trodVars_none hV
  obtain ⟨x, rfl⟩ := WideShapes.okWide_int Try.underlying3 (hval 0 3 _ rfl rfl)
  obtain ⟨a1, len1, cap1, rfl⟩ := WideShapes.okWide_slice Try.underlying35 (hval 1 35 _ rfl rfl)
  obtain ⟨a2, len2, cap2, rfl⟩ := WideShapes.okWide_slice Try.underlying46 (hval 2 46 _ rfl rfl)
  obtain ⟨es, v, hv, hk⟩ := open_arg (Opens.slice (t := 35) Opens.entry) hsz 1 rfl rfl h1
  simp only [Value.cells, List.cons.injEq, and_true] at hv
  subst hv
  obtain ⟨xs, v, hv, hx⟩ := open_arg (Opens.slice (t := 46) Opens.op) hsz 2 rfl rfl h2
  simp only [Value.cells, List.cons.injEq, and_true] at hv
  subst hv
  refine (feedPlays_spec (Old W) x _ _ _ es xs W (fun _ h => h) hk hx).calls (fun v w' hr => ?_)
  obtain ⟨rfl, hk⟩ := hr
  exact ⟨_, rfl, law_post Try.laidOut (by rw [Try.params5]; decide +kernel) rfl rfl Try.underlying4 hW' rfl hk.below⟩

theorem feedPlays_holds : Rows.FeedPlaysSaid :=
  OpenClaim.holds_of_wide 5 Try.f5 rfl rfl rfl rfl rfl rfl rfl ⟨rfl, rfl, rfl, rfl, rfl⟩ rfl rfl rfl rfl rfl (by kernel_rfl) Try.func5 (by kernel_rfl)
    (of_decide_eq_true (by kernel_rfl)) (by unfold Func.isWrapper; first | (rw [if_pos (by decide +kernel)]; kernel_rfl) | (rw [if_neg (by decide +kernel)]; exact ⟨rfl, rfl⟩))
    (fun os started H enc _ => feedPlays_lifted os started H enc)
#print axioms feedPlays_holds
end Go.Proofs.Ytkehmehodgcdfaa
