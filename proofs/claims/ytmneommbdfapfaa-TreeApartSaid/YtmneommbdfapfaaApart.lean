/- For every two slices of byte slices the Go function rhizomelaw06.TreeApart returns true and leaves its arguments as they were (Rows.TreeApartSaid). No condition. -/
import Derived.Test.YtmneommbdfapfaaTu
namespace Go.Proofs.Ytmneommbdfapfaa
open Vb Go.RowKit

set_option maxRecDepth 100000 in
theorem treeApart_lifted (os : Os) (started : os.Started) (H : Type) (enc : TypeId × Value → H) :
    ReturnsInHanded {} Try.checked os 6 .any (Rows.treeApartSpec.pre6 enc Try.prog Try.f6 Rows.treeApartRow.domain false) (Rows.treeApartSpec.post enc Try.prog Try.f6 false true false false) := by
  refine returnsInHanded_of_change_sized (C := Try.checked) Try.own started (by kernel_rfl) Try.func6
    (ChangeSpec.witness6 (enc := enc) (C := Try.checked) false ⟨#[], #[.slice none 0 0, .slice none 0 0], []⟩ 8 (by kernel_rfl) (by kernel_rfl) (by kernel_rfl) (by kernel_rfl)) ?_
  intro W base args ds gs before hval0 hW _ hsz _
  have hval : ∀ (j : Nat) t v, Try.f6.params[j]? = some t → args[j]? = some v → Value.okWide Try.prog W .any base t v := hval0
  have hW' := hW
  obtain ⟨p, q, hA0, hV, rfl, _, _⟩ := hW
  have hA : DataW.TrodAll enc Try.prog W 0 (fun _ => true) true Try.f6.params.toList args.toList ds p := hA0
  rw [Try.params6] at hA hval
  obtain ⟨v0, v1, d0, d1, p0, p1, rfl, rfl, rfl, h0, h1⟩ := ChangeShapes.trodAll_two hA
  obtain ⟨rfl, rfl⟩ := ChangeShapes.trodVars_none hV
  obtain ⟨a0, len, cap, rfl⟩ := WideShapes.okWide_slice Try.underlying22 (hval 0 22 _ rfl rfl)
  obtain ⟨a1, len1, cap1, rfl⟩ := WideShapes.okWide_slice Try.underlying22 (hval 1 22 _ rfl rfl)
  obtain ⟨keys, v, hv, hk⟩ := open_arg Opens.bss hsz 0 rfl rfl h0
  simp only [Value.cells, List.cons.injEq, and_true] at hv
  subst hv
  obtain ⟨more, v, hv, hm⟩ := open_arg Opens.bss hsz 1 rfl rfl h1
  simp only [Value.cells, List.cons.injEq, and_true] at hv
  subst hv
  refine (treeApart_spec (Old W) _ _ keys more W hk hm (fun _ h => h)).calls (fun v w' hr => ?_)
  obtain ⟨rfl, hk⟩ := hr
  exact ⟨_, rfl, law_post Try.laidOut (by rw [Try.params6]; decide +kernel) rfl rfl Try.underlying4 hW' rfl hk.below⟩

theorem treeApart_holds : Rows.TreeApartSaid :=
  OpenClaim.holds_of_wide 6 Try.f6 rfl rfl rfl rfl rfl rfl rfl ⟨rfl, rfl, rfl, rfl, rfl⟩ rfl rfl rfl rfl rfl (by kernel_rfl) Try.func6 (by kernel_rfl)
    (of_decide_eq_true (by kernel_rfl)) (by unfold Func.isWrapper; first | (rw [if_pos (by decide +kernel)]; kernel_rfl) | (rw [if_neg (by decide +kernel)]; exact ⟨rfl, rfl⟩))
    (fun os started H enc _ => treeApart_lifted os started H enc)
#print axioms treeApart_holds
end Go.Proofs.Ytmneommbdfapfaa
