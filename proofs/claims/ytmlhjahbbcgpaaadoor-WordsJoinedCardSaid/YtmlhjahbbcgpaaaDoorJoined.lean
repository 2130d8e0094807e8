/- For every slice of strings and every two byte slices the Go function rhizomelaw08.WordsJoined returns true and leaves its arguments as they were (Rows.WordsJoinedCardSaid): the tied card; its row's tables are tied to the program's text by the given tie. -/
import Derived.Test.YtmlhjahbbcgpaaaDoorWu
import Derived.Test.YtmlhjahbbcgpaaaDoorWk
import Derived.Test.YtmlhjahbbcgpaaaDoorTie
import Derived.Test.YtmlhjahbbcgpaaaDoorCards
import Derived.SevenTiedAt
namespace Go.Proofs.YtmlhjahbbcgpaaaDoor
open Vb Go.RowKit

theorem Opens.strs : Opens Tryd.prog 33 (fun F w cs (x : List Bs) => ∃ v, cs = [v] ∧ Strs F w v x) :=
  (Opens.slice (t := 33) (Opens.string Tryd.underlying9)).imp (fun F w cs xs h => by
    obtain ⟨v, h1, A, c, h2, h3, h4, h5, h6⟩ := h
    refine ⟨xs.map (fun s => s.data.toList), v, h1, A, c, by simpa using h2, by simpa using h3, h4, by simpa using h5, fun i x hi => ?_⟩
    rw [List.getElem?_map] at hi
    obtain ⟨y, hy, rfl⟩ := Option.map_eq_some_iff.1 hi
    obtain ⟨b, o, cs, g1, g2, g3, g4, g5, g6⟩ := h6 i y hy
    refine ⟨b, o, cs, g1, g2, g3, g4, ?_⟩
    obtain ⟨l, rfl⟩ := bytes_str y
    have g5 : cs = [str l] := g5
    rw [g5]; simp [RStr])
set_option maxRecDepth 100000 in
theorem wordsJoined_lifted (os : Os) (started : os.Started) (H : Type) (enc : TypeId × Value → H) :
    ReturnsInHanded {} Tryd.checked os 4 .any (fun w args => (Rows.wordsJoinedSpec.pre enc Tryd.prog Tryd.f4 [] false w args ∧ laidMetH Tryd.prog wlaid w) ∧ sizedMet enc Tryd.prog Tryd.f4 (OpenSpec.ofChange Rows.wordsJoinedSpec) false w args)
      (Rows.wordsJoinedSpec.post enc Tryd.prog Tryd.f4 false true false false) := by
  refine returnsInHanded_of_change_and (C := Tryd.checked) (X := fun w _ => laidMetH Tryd.prog wlaid w) (fun _ _ _ hh h => h.of_heap hh) Tryd.own started (by kernel_rfl) Tryd.func4
    (ChangeSpec.witness_shaped (enc := enc) (C := Tryd.checked) (os := os) (X := fun w _ => laidMetH Tryd.prog wlaid w) false (World.laidAll Tryd.prog os wlaid) #[.slice none 0 0, .slice none 0 0, .slice none 0 0] 8 (World.laidAll_os _ _ _)
      (World.shaped_of_ZipB (by kernel_rfl) (by kernel_rfl)) (by kernel_rfl) (by kernel_rfl) (by kernel_rfl)
      (laid_witness os _)) ?_
  intro W base args ds gs before hval0 hW _ hsz hL _
  have hval : ∀ (j : Nat) t v, Tryd.f4.params[j]? = some t → args[j]? = some v → Value.okWide Tryd.prog W .any base t v := hval0
  have hW' := hW
  obtain ⟨p, q, hA0, hV, rfl, _, _⟩ := hW
  have hA : DataW.TrodAll enc Tryd.prog W 0 (fun _ => true) true Tryd.f4.params.toList args.toList ds p := hA0
  rw [Tryd.params4] at hA hval
  obtain ⟨v0, v1, v2, d0, d1, d2, p0, p1, p2, rfl, rfl, rfl, h0, h1, h2⟩ := ChangeShapes.trodAll_three hA
  obtain ⟨rfl, rfl⟩ := ChangeShapes.trodVars_none hV
  obtain ⟨a0, n0, cap0, rfl⟩ := WideShapes.okWide_slice Tryd.underlying33 (hval 0 33 _ rfl rfl)
  obtain ⟨a1, n1, cap1, rfl⟩ := WideShapes.okWide_slice Tryd.underlying34 (hval 1 34 _ rfl rfl)
  obtain ⟨a2, n2, cap2, rfl⟩ := WideShapes.okWide_slice Tryd.underlying34 (hval 2 34 _ rfl rfl)
  obtain ⟨names, u0, e0, b0⟩ := open_arg Opens.strs hsz 0 rfl rfl h0
  obtain ⟨ss, u1, e1, b1⟩ := open_arg Opens.bytes hsz 1 rfl rfl h1
  obtain ⟨gs', u2, e2, b2⟩ := open_arg Opens.bytes hsz 2 rfl rfl h2
  simp only [Value.cells, List.cons.injEq, and_true] at e0 e1 e2
  subst e0; subst e1; subst e2
  refine (joined_spec (Old W) _ _ _ names ss gs' W (tabs_of_laid hL) (fun k hk => hk) b0 b1 b2).calls (fun v w' hr => ?_)
  obtain ⟨rfl, hk⟩ := hr
  exact ⟨_, rfl, law_post Tryd.laidOut (by rw [Tryd.params4]; decide +kernel) rfl rfl Tryd.underlying4 hW' rfl hk.below⟩

theorem wordsJoined_row_holds : Rows.WordsJoinedSaid :=
  OpenClaim.holds_of_wide 4 Tryd.f4 rfl rfl rfl rfl rfl rfl rfl ⟨rfl, rfl, rfl, rfl, rfl⟩ rfl rfl rfl rfl rfl (by kernel_rfl) Tryd.func4 (by kernel_rfl)
    (of_decide_eq_true (by kernel_rfl)) (by unfold Func.isWrapper; first | (rw [if_pos (by decide +kernel)]; kernel_rfl) | (rw [if_neg (by decide +kernel)]; exact ⟨rfl, rfl⟩))
    (fun os started H enc _ => wordsJoined_lifted os started H enc)
theorem wordsJoined_holds : Rows.WordsJoinedCardSaid :=
  Claim7.holds_tied_plain_at .later [] [.data, .pinned] true (true, "21e518a30c8a0d4ba769a8e171f97fbf34dfccfb703704af5ffc827f2398dd42") false wordsJoined_row_holds (fun _ h => by cases h) (by kernel_rfl) (fun _ h => by cases h) wordsJoined_row_tie rfl ⟨rfl, rfl⟩ (by kernel_rfl) rfl
    (fun f fn hf hfn => by
      obtain rfl : f = 4 := Option.some.inj ((show Tryd.prog.funcNamed "rhizome/rhizomelaw08.WordsJoined" = some 4 by kernel_rfl).symm.trans hf) |>.symm
      obtain rfl : fn = Tryd.f4 := (Option.some.inj (Tryd.func4.symm.trans hfn)).symm
      exact ⟨by kernel_rfl, fun j t ht => by
        rw [Tryd.params4] at ht
        have hm : t ∈ [33, 34, 34] := by simpa using Array.mem_of_getElem? ht
        have hall : ([33, 34, 34].all fun u => !Tryd.prog.wantsStandIn u) = true := by kernel_rfl
        exact (show Tryd.prog.wantsStandIn t = false by simpa using List.all_eq_true.1 hall t hm)⟩)
    (by kernel_rfl)
#print axioms wordsJoined_holds
end Go.Proofs.YtmlhjahbbcgpaaaDoor
