/- For every string and every byte slice the Go function rhizomelaw08.WordsMoved returns true and leaves its arguments as they were (Rows.WordsMovedCardSaid): the tied card; its row's tables are tied to the program's text by the given tie. -/
import Derived.Test.YtmlhjahbbcgpaaaDoorWp
import Derived.Test.YtmlhjahbbcgpaaaDoorWk
import Derived.Test.YtmlhjahbbcgpaaaDoorTie
import Derived.Test.YtmlhjahbbcgpaaaDoorCards
import Derived.SevenTiedAt
namespace Go.Proofs.YtmlhjahbbcgpaaaDoor
open Vb Go.RowKit

set_option maxRecDepth 100000 in
theorem wordsMoved_lifted (os : Os) (started : os.Started) (H : Type) (enc : TypeId × Value → H) :
    ReturnsInHanded {} Tryd.checked os 7 .any (fun w args => (Rows.wordsMovedSpec.pre enc Tryd.prog Tryd.f7 [] false w args ∧ laidMetH Tryd.prog wlaid w) ∧ sizedMet enc Tryd.prog Tryd.f7 (OpenSpec.ofChange Rows.wordsMovedSpec) false w args)
      (Rows.wordsMovedSpec.post enc Tryd.prog Tryd.f7 false true false false) := by
  refine returnsInHanded_of_change_and (C := Tryd.checked) (X := fun w _ => laidMetH Tryd.prog wlaid w) (fun _ _ _ hh h => h.of_heap hh) Tryd.own started (by kernel_rfl) Tryd.func7
    (ChangeSpec.witness_shaped (enc := enc) (C := Tryd.checked) (os := os) (X := fun w _ => laidMetH Tryd.prog wlaid w) false (World.laidAll Tryd.prog os wlaid) #[.string ⟨#[]⟩, .slice none 0 0] 8 (World.laidAll_os _ _ _)
      (World.shaped_of_ZipB (by kernel_rfl) (by kernel_rfl)) (by kernel_rfl) (by kernel_rfl) (by kernel_rfl)
      (laid_witness os _)) ?_
  intro W base args ds gs before hval0 hW _ hsz hL _
  have hval : ∀ (j : Nat) t v, Tryd.f7.params[j]? = some t → args[j]? = some v → Value.okWide Tryd.prog W .any base t v := hval0
  have hW' := hW
  obtain ⟨p, q, hA0, hV, rfl, _, _⟩ := hW
  have hA : DataW.TrodAll enc Tryd.prog W 0 (fun _ => true) true Tryd.f7.params.toList args.toList ds p := hA0
  rw [Tryd.params7] at hA hval
  obtain ⟨v0, v1, d0, d1, p0, p1, rfl, rfl, rfl, h0, h1⟩ := ChangeShapes.trodAll_two hA
  obtain ⟨rfl, rfl⟩ := ChangeShapes.trodVars_none hV
  obtain ⟨s, rfl, rfl, rfl, ws⟩ := ChangeMaps.open_string Tryd.underlying9 (hval 0 9 v0 rfl rfl) h0
  obtain ⟨a0, len, cap, rfl⟩ := WideShapes.okWide_slice Tryd.underlying34 (hval 1 34 _ rfl rfl)
  obtain ⟨bs, v, hv, hb⟩ := open_arg Opens.bytes hsz 1 rfl rfl h1
  simp only [Value.cells, List.cons.injEq, and_true] at hv
  subst hv
  obtain ⟨l, rfl⟩ := bytes_str s
  refine (moved_spec _ l _ bs W (tabs_of_laid hL) hb).calls (fun v w' hr => ?_)
  obtain ⟨rfl, hk⟩ := hr
  exact ⟨_, rfl, law_post Tryd.laidOut (by rw [Tryd.params7]; decide +kernel) rfl rfl Tryd.underlying4 hW' rfl hk.below⟩

theorem wordsMoved_row_holds : Rows.WordsMovedSaid :=
  OpenClaim.holds_of_wide 7 Tryd.f7 rfl rfl rfl rfl rfl rfl rfl ⟨rfl, rfl, rfl, rfl, rfl⟩ rfl rfl rfl rfl rfl (by kernel_rfl) Tryd.func7 (by kernel_rfl)
    (of_decide_eq_true (by kernel_rfl)) (by unfold Func.isWrapper; first | (rw [if_pos (by decide +kernel)]; kernel_rfl) | (rw [if_neg (by decide +kernel)]; exact ⟨rfl, rfl⟩))
    (fun os started H enc _ => wordsMoved_lifted os started H enc)
theorem wordsMoved_holds : Rows.WordsMovedCardSaid :=
  Claim7.holds_tied_plain_at .later [] [.data, .pinned] true (true, "21e518a30c8a0d4ba769a8e171f97fbf34dfccfb703704af5ffc827f2398dd42") false wordsMoved_row_holds (fun _ h => by cases h) (by kernel_rfl) (fun _ h => by cases h) wordsMoved_row_tie rfl ⟨rfl, rfl⟩ (by kernel_rfl) rfl
    (fun f fn hf hfn => by
      obtain rfl : f = 7 := Option.some.inj ((show Tryd.prog.funcNamed "rhizome/rhizomelaw08.WordsMoved" = some 7 by kernel_rfl).symm.trans hf) |>.symm
      obtain rfl : fn = Tryd.f7 := (Option.some.inj (Tryd.func7.symm.trans hfn)).symm
      exact ⟨by kernel_rfl, fun j t ht => by
        rw [Tryd.params7] at ht
        have hm : t ∈ [9, 34] := by simpa using Array.mem_of_getElem? ht
        have hall : ([9, 34].all fun u => !Tryd.prog.wantsStandIn u) = true := by kernel_rfl
        exact (show Tryd.prog.wantsStandIn t = false by simpa using List.all_eq_true.1 hall t hm)⟩)
    (by kernel_rfl)
#print axioms wordsMoved_holds
end Go.Proofs.YtmlhjahbbcgpaaaDoor
