/- For every slice of byte slices, every three byte slices and every int the Go function rhizomelaw06.TreeHalves returns true and leaves its arguments as they were (Rows.TreeHalvesSaid). No condition. -/
import Derived.Test.YtmneommbdfapfaaTk
namespace Go.Proofs.Ytmneommbdfapfaa
open Vb Go.RowKit

theorem three_of {l : List Value} (h : l.length = 3) : ∃ a b c, l = [a, b, c] := by
  match l, h with
  | [a, b, c], _ => exact ⟨a, b, c, rfl⟩
set_option maxRecDepth 100000 in
theorem treeHalves_lifted (os : Os) (started : os.Started) (H : Type) (enc : TypeId × Value → H) :
    ReturnsInHanded {} Try.checked os 3 .any (Rows.treeHalvesSpec.pre6 enc Try.prog Try.f3 Rows.treeHalvesRow.domain false) (Rows.treeHalvesSpec.post enc Try.prog Try.f3 false true false false) := by
  refine returnsInHanded_of_change_sized (C := Try.checked) Try.own started (by kernel_rfl) Try.func3
    (ChangeSpec.witness6 (enc := enc) (C := Try.checked) false ⟨#[], #[.slice none 0 0, .agg #[.slice none 0 0, .slice none 0 0, .slice none 0 0], .int .i64 0], []⟩ 8 (by kernel_rfl) (by kernel_rfl) (by kernel_rfl) (by kernel_rfl)) ?_
  intro W base args ds gs before hval0 hW _ hsz _
  have hval : ∀ (j : Nat) t v, Try.f3.params[j]? = some t → args[j]? = some v → Value.okWide Try.prog W .any base t v := hval0
  have hW' := hW
  obtain ⟨p, q, hA0, hV, rfl, _, _⟩ := hW
  have hA : DataW.TrodAll enc Try.prog W 0 (fun _ => true) true Try.f3.params.toList args.toList ds p := hA0
  rw [Try.params3] at hA hval
  obtain ⟨v0, v1, v2, d0, d1, d2, p0, p1, p2, rfl, rfl, rfl, h0, h1, h2⟩ := ChangeShapes.trodAll_three hA
  obtain ⟨rfl, rfl⟩ := ChangeShapes.trodVars_none hV
  obtain ⟨a0, len, cap, rfl⟩ := WideShapes.okWide_slice Try.underlying22 (hval 0 22 _ rfl rfl)
  obtain ⟨cs, rfl, hcs⟩ := okWide_array Try.underlying24 (hval 1 24 _ rfl rfl)
  obtain ⟨x, rfl⟩ := WideShapes.okWide_int Try.underlying3 (hval 2 3 _ rfl rfl)
  obtain ⟨keys, v, hv, hk⟩ := open_arg Opens.bss hsz 0 rfl rfl h0
  simp only [Value.cells, List.cons.injEq, and_true] at hv
  subst hv
  obtain ⟨_, hl, he⟩ := open_arg (Opens.array Try.underlying24 Opens.bytes) hsz 1 rfl rfl h1
  have hcs' : cs.toList.length = 3 := by rw [Array.length_toList, hcs]; exact ty24.cellsOf
  obtain ⟨l0, rfl⟩ : ∃ l : List Value, cs = l.toArray := ⟨cs.toList, by simp⟩
  obtain ⟨c0, c1, c2, rfl⟩ := three_of hcs'
  obtain ⟨lo, u0, e0, b0⟩ := he 0 (by omega)
  obtain ⟨mid, u1, e1, b1⟩ := he 1 (by omega)
  obtain ⟨hi, u2, e2, b2⟩ := he 2 (by omega)
  simp [Value.cells] at e0 e1 e2
  subst e0; subst e1; subst e2
  refine (treeHalves_spec (Old W) _ _ _ _ keys lo mid hi x W hk b0 b1 b2).calls (fun v w' hr => ?_)
  obtain ⟨rfl, hk⟩ := hr
  exact ⟨_, rfl, law_post Try.laidOut (by rw [Try.params3]; decide +kernel) rfl rfl Try.underlying4 hW' rfl hk.below⟩

theorem treeHalves_holds : Rows.TreeHalvesSaid :=
  OpenClaim.holds_of_wide 3 Try.f3 rfl rfl rfl rfl rfl rfl rfl ⟨rfl, rfl, rfl, rfl, rfl⟩ rfl rfl rfl rfl rfl (by kernel_rfl) Try.func3 (by kernel_rfl)
    (of_decide_eq_true (by kernel_rfl)) (by unfold Func.isWrapper; first | (rw [if_pos (by decide +kernel)]; kernel_rfl) | (rw [if_neg (by decide +kernel)]; exact ⟨rfl, rfl⟩))
    (fun os started H enc _ => treeHalves_lifted os started H enc)
#print axioms treeHalves_holds
end Go.Proofs.Ytmneommbdfapfaa
