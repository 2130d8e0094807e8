/- rhizomelaw08.awake -/
import Derived.Test.YtmlhjahbbcgpaaaDoorWg
namespace Go.Proofs.YtmlhjahbbcgpaaaDoor
open Vb Go.RowKit

/-- runes, by fuel. -/
def runesF : Nat → Bs → List Nat × Bool
  | 0, _ => ([], true)
  | n + 1, s => if s.isEmpty then ([], true) else if okd (dec s) then ((dec s).1 :: (runesF n (s.drop (dec s).2)).1, (runesF n (s.drop (dec s).2)).2) else ([], false)
theorem runes_fuel (n : Nat) : ∀ s : Bs, s.length ≤ n → runes s = runesF n s := by
  induction n with
  | zero => intro s h; have : s = [] := List.eq_nil_of_length_eq_zero (by omega); subst this; exact runes_nil
  | succ n ih =>
    intro s h
    by_cases hne : s = []
    · subst hne; exact runes_nil
    · have he : s.isEmpty = false := by cases s; exact absurd rfl hne; rfl
      have h1 := dec_pos hne
      have h2 := List.length_pos_iff.2 hne
      unfold runesF
      rw [he]
      cases ho : okd (dec s)
      · rw [runes_bad hne ho]; rfl
      · rw [runes_ok hne ho, ih (s.drop (dec s).2) (by rw [List.length_drop]; omega)]; rfl
def splitF (t : Bs) : List WV × Nat × Nat × Nat :=
  if 1024 < t.length then ([], 0, 0, 3)
  else
    let m := mach MS.init (runesF t.length t).1
    if (runesF t.length t).2 = false then ([], m.at_.1, m.at_.2, 7)
    else if 0 < m.bad.1 then ([], m.bad.1, m.bad.2, 80)
    else (m.out, 0, 0, 0)
theorem split_fuel (t : Bs) : splitP t = splitF t := by
  unfold splitP splitF
  rw [runes_fuel t.length t (Nat.le_refl _)]
def lit1 : Bs := [118, 105, 101, 119, 32, 97, 40, 120, 41, 32, 226, 134, 144, 32, 98, 40, 120, 44, 121, 41, 59]
def lit2 : Bs := [40, 195, 169]
def lit3 : Bs := [40, 10, 32, 32, 98]
theorem lit1_split : ∃ l x, splitP lit1 = (l, 0, 0, 0) ∧ l.length = 13 ∧ l[5]? = some x ∧ x.text = [61] := by
  rw [split_fuel]
  refine ⟨_, ⟨false, [61], 1, 11⟩, rfl, ?_, ?_, ?_⟩
  all_goals kernel_rfl
theorem lit2_split : splitP lit2 = ([], 1, 2, 80) := by
  rw [split_fuel]; kernel_rfl
theorem lit3_split : ∃ l x, splitP lit3 = (l, 0, 0, 0) ∧ l.length = 2 ∧ l[1]? = some x ∧ x.line = 2 ∧ x.col = 3 := by
  rw [split_fuel]
  refine ⟨_, ⟨true, [98], 2, 3⟩, rfl, ?_, ?_, ?_, ?_⟩
  all_goals kernel_rfl

theorem SWords.at {F : Nat → Prop} {w : World} {v : Value} {l : List WV} (h : SWords F w v l) : ∃ A c, v = .slice A l.length c ∧ ∀ i (x : WV), l[i]? = some x → ∃ b o, A = some ⟨b, o, none⟩ ∧ F b ∧ w.cell? ⟨b, o + i * 4, none⟩ = some (.bool x.name) ∧ w.cell? ⟨b, o + i * 4 + 1, none⟩ = some (str x.text) ∧ w.cell? ⟨b, o + i * 4 + 2, none⟩ = some (.int .i64 x.line) ∧ w.cell? ⟨b, o + i * 4 + 3, none⟩ = some (.int .i64 x.col) := by
  obtain ⟨A, c, hv, _, _, _, he⟩ := h
  refine ⟨A, c, hv, fun i x hi => ?_⟩
  obtain ⟨b, o, cs, h1, h2, h3, h4, h5⟩ := he i x hi
  have h5 : cs = wcells x := h5
  subst h5
  have hc : ∀ j u, (wcells x)[j]? = some u → w.cell? ⟨b, o + i * 4 + j, none⟩ = some u := fun j u hu => h4 j u hu
  exact ⟨b, o, h1, h2, hc 0 _ rfl, hc 1 _ rfl, hc 2 _ rfl, hc 3 _ rfl⟩

set_option maxHeartbeats 3200000 in
theorem awake_spec (w : World) (hT : Tabs w) : Meets Tryd.prog 8 #[] w (fun r w' => r = .bool true ∧ Keep Non w w') := by
  obtain ⟨l1, x1, e1, n1, g1, t1⟩ := lit1_split
  obtain ⟨l3, x3, e3, n3, g3, t3, t4⟩ := lit3_split
  refine Meets.enter Tryd.func8 Tryd.ntmps8 rfl rfl ?_
  (repeat first|refine .seq ?_|refine .region ?_|refine .block ?_|refine .skip ?_|refine .ret ?_|refine .exit ?_|refine .yes rfl ?_|refine .no rfl ?_|refine .nil ?_|refine .go ?_|refine .thenExit ?_|refine .thenRet ?_|refine .inExit ?_|refine .outExit rfl ?_|refine .inNormal ?_|refine .inRet ?_|refine .off rfl rfl ?_|refine .offU rfl rfl rfl ?_|(apply W.y rfl rfl;first|exact .move rfl|exact .assign rfl|exact .fieldC rfl|exact .loadW rfl (by (first|apply Ld.oneC|apply Ld.two|apply Ld.three|apply Ld.four|apply Ld.five);repeat(first|assumption|exact Row.cell (by assumption) (by first|rfl|assumption)))|exact .nilCheck rfl|exact .lenC rfl|exact .lenStrC rfl|exact .extract rfl rfl|exact .not rfl|exact .pickT rfl rfl|exact .pickF rfl rfl|exact .buildC rfl rfl|exact .indexC _ rfl rfl rfl (by omega)|exact .indexC 0 rfl rfl rfl (by omega)|exact .indexC 1 rfl rfl rfl (by omega)|exact .indexC 2 rfl rfl rfl (by omega)|exact .indexArrC _ rfl rfl rfl (by omega)|exact .indexArrC 0 rfl rfl rfl (by omega)|exact .indexArrC 1 rfl rfl rfl (by omega)|exact .indexArrC 2 rfl rfl rfl (by omega)|exact .add _ rfl rfl (wrap_i64 (by omega))|exact .sub _ rfl rfl (wrap_i64 (by omega))|exact .rem _ rfl rfl (by decide) (Int.tmod_eq_emod_of_nonneg (by omega))|exact .cmpT rfl rfl rfl (by unfold cmpP;omega)|exact .cmpF rfl rfl rfl (by unfold cmpP;omega)|fail)|fail)
  refine W.st rfl rfl (St.callC rfl (split_spec lit1 w hT (by decide))) (fun v1 w1 h1 => ?_)
  obtain ⟨vo1, rfl, hs1, _, k1⟩ := h1
  rw [e1] at hs1 ⊢
  simp only at hs1 ⊢
  (repeat first|refine .seq ?_|refine .region ?_|refine .block ?_|refine .skip ?_|refine .ret ?_|refine .exit ?_|refine .yes rfl ?_|refine .no rfl ?_|refine .nil ?_|refine .go ?_|refine .thenExit ?_|refine .thenRet ?_|refine .inExit ?_|refine .outExit rfl ?_|refine .inNormal ?_|refine .inRet ?_|refine .off rfl rfl ?_|refine .offU rfl rfl rfl ?_|(apply W.y rfl rfl;first|exact .move rfl|exact .assign rfl|exact .fieldC rfl|exact .loadW rfl (by (first|apply Ld.oneC|apply Ld.two|apply Ld.three|apply Ld.four|apply Ld.five);repeat(first|assumption|exact Row.cell (by assumption) (by first|rfl|assumption)))|exact .nilCheck rfl|exact .lenC rfl|exact .lenStrC rfl|exact .extract rfl rfl|exact .not rfl|exact .pickT rfl rfl|exact .pickF rfl rfl|exact .buildC rfl rfl|exact .indexC _ rfl rfl rfl (by omega)|exact .indexC 0 rfl rfl rfl (by omega)|exact .indexC 1 rfl rfl rfl (by omega)|exact .indexC 2 rfl rfl rfl (by omega)|exact .indexArrC _ rfl rfl rfl (by omega)|exact .indexArrC 0 rfl rfl rfl (by omega)|exact .indexArrC 1 rfl rfl rfl (by omega)|exact .indexArrC 2 rfl rfl rfl (by omega)|exact .add _ rfl rfl (wrap_i64 (by omega))|exact .sub _ rfl rfl (wrap_i64 (by omega))|exact .rem _ rfl rfl (by decide) (Int.tmod_eq_emod_of_nonneg (by omega))|exact .cmpT rfl rfl rfl (by unfold cmpP;omega)|exact .cmpF rfl rfl rfl (by unfold cmpP;omega)|fail)|fail)
  refine W.st rfl rfl (St.callC rfl (split_spec lit2 w1 (hT.up k1) (by decide))) (fun v2 w2 h2 => ?_)
  obtain ⟨vo2, rfl, hs2, _, k2⟩ := h2
  rw [lit2_split] at hs2 ⊢
  simp only at hs2 ⊢
  (repeat first|refine .seq ?_|refine .region ?_|refine .block ?_|refine .skip ?_|refine .ret ?_|refine .exit ?_|refine .yes rfl ?_|refine .no rfl ?_|refine .nil ?_|refine .go ?_|refine .thenExit ?_|refine .thenRet ?_|refine .inExit ?_|refine .outExit rfl ?_|refine .inNormal ?_|refine .inRet ?_|refine .off rfl rfl ?_|refine .offU rfl rfl rfl ?_|(apply W.y rfl rfl;first|exact .move rfl|exact .assign rfl|exact .fieldC rfl|exact .loadW rfl (by (first|apply Ld.oneC|apply Ld.two|apply Ld.three|apply Ld.four|apply Ld.five);repeat(first|assumption|exact Row.cell (by assumption) (by first|rfl|assumption)))|exact .nilCheck rfl|exact .lenC rfl|exact .lenStrC rfl|exact .extract rfl rfl|exact .not rfl|exact .pickT rfl rfl|exact .pickF rfl rfl|exact .buildC rfl rfl|exact .indexC _ rfl rfl rfl (by omega)|exact .indexC 0 rfl rfl rfl (by omega)|exact .indexC 1 rfl rfl rfl (by omega)|exact .indexC 2 rfl rfl rfl (by omega)|exact .indexArrC _ rfl rfl rfl (by omega)|exact .indexArrC 0 rfl rfl rfl (by omega)|exact .indexArrC 1 rfl rfl rfl (by omega)|exact .indexArrC 2 rfl rfl rfl (by omega)|exact .add _ rfl rfl (wrap_i64 (by omega))|exact .sub _ rfl rfl (wrap_i64 (by omega))|exact .rem _ rfl rfl (by decide) (Int.tmod_eq_emod_of_nonneg (by omega))|exact .cmpT rfl rfl rfl (by unfold cmpP;omega)|exact .cmpF rfl rfl rfl (by unfold cmpP;omega)|fail)|fail)
  refine W.st rfl rfl (St.callC rfl (split_spec lit3 w2 (hT.up (k1.then k2)) (by decide))) (fun v3 w3 h3 => ?_)
  obtain ⟨vo3, rfl, hs3, _, k3⟩ := h3
  rw [e3] at hs3 ⊢
  simp only at hs3 ⊢
  have hs1' := hs1.keep (k2.then k3) (fun _ _ => non_not _)
  obtain ⟨A1, c1, rfl, he1⟩ := hs1'.at
  obtain ⟨A3, c3, rfl, he3⟩ := hs3.at
  obtain ⟨b1, o1, rfl, _, _, q1, _, _⟩ := he1 5 x1 g1
  obtain ⟨b3, o3, rfl, _, _, _, q2, q3⟩ := he3 1 x3 g3
  rw [t1] at q1
  rw [t3] at q2
  rw [t4] at q3
  have hl1 : l1.length = 13 := n1
  have hl3 : l3.length = 2 := n3
  (repeat first|refine .seq ?_|refine .region ?_|refine .block ?_|refine .skip ?_|refine .ret ?_|refine .exit ?_|refine .yes rfl ?_|refine .no rfl ?_|refine .nil ?_|refine .go ?_|refine .thenExit ?_|refine .thenRet ?_|refine .inExit ?_|refine .outExit rfl ?_|refine .inNormal ?_|refine .inRet ?_|refine .off rfl rfl ?_|refine .offU rfl rfl rfl ?_|(apply W.y rfl rfl;first|exact .move rfl|exact .assign rfl|exact .fieldC rfl|exact .loadW rfl (by (first|apply Ld.oneC|apply Ld.two|apply Ld.three|apply Ld.four|apply Ld.five);repeat(first|assumption|exact Row.cell (by assumption) (by first|rfl|assumption)))|exact .nilCheck rfl|exact .lenC rfl|exact .lenStrC rfl|exact .extract rfl rfl|exact .not rfl|exact .pickT rfl rfl|exact .pickF rfl rfl|exact .buildC rfl rfl|exact .indexC _ rfl rfl rfl (by omega)|exact .indexC 0 rfl rfl rfl (by omega)|exact .indexC 1 rfl rfl rfl (by omega)|exact .indexC 2 rfl rfl rfl (by omega)|exact .indexArrC _ rfl rfl rfl (by omega)|exact .indexArrC 0 rfl rfl rfl (by omega)|exact .indexArrC 1 rfl rfl rfl (by omega)|exact .indexArrC 2 rfl rfl rfl (by omega)|exact .add _ rfl rfl (wrap_i64 (by omega))|exact .sub _ rfl rfl (wrap_i64 (by omega))|exact .rem _ rfl rfl (by decide) (Int.tmod_eq_emod_of_nonneg (by omega))|exact .cmpT rfl rfl rfl (by unfold cmpP;omega)|exact .cmpF rfl rfl rfl (by unfold cmpP;omega)|fail)|fail)
  refine W.y rfl rfl (Y.indexC 5 rfl rfl rfl (by omega)) ?_
  (repeat first|refine .seq ?_|refine .region ?_|refine .block ?_|refine .skip ?_|refine .ret ?_|refine .exit ?_|refine .yes rfl ?_|refine .no rfl ?_|refine .nil ?_|refine .go ?_|refine .thenExit ?_|refine .thenRet ?_|refine .inExit ?_|refine .outExit rfl ?_|refine .inNormal ?_|refine .inRet ?_|refine .off rfl rfl ?_|refine .offU rfl rfl rfl ?_|(apply W.y rfl rfl;first|exact .move rfl|exact .assign rfl|exact .fieldC rfl|exact .loadW rfl (by (first|apply Ld.oneC|apply Ld.two|apply Ld.three|apply Ld.four|apply Ld.five);repeat(first|assumption|exact Row.cell (by assumption) (by first|rfl|assumption)))|exact .nilCheck rfl|exact .lenC rfl|exact .lenStrC rfl|exact .extract rfl rfl|exact .not rfl|exact .pickT rfl rfl|exact .pickF rfl rfl|exact .buildC rfl rfl|exact .indexC _ rfl rfl rfl (by omega)|exact .indexC 0 rfl rfl rfl (by omega)|exact .indexC 1 rfl rfl rfl (by omega)|exact .indexC 2 rfl rfl rfl (by omega)|exact .indexArrC _ rfl rfl rfl (by omega)|exact .indexArrC 0 rfl rfl rfl (by omega)|exact .indexArrC 1 rfl rfl rfl (by omega)|exact .indexArrC 2 rfl rfl rfl (by omega)|exact .add _ rfl rfl (wrap_i64 (by omega))|exact .sub _ rfl rfl (wrap_i64 (by omega))|exact .rem _ rfl rfl (by decide) (Int.tmod_eq_emod_of_nonneg (by omega))|exact .cmpT rfl rfl rfl (by unfold cmpP;omega)|exact .cmpF rfl rfl rfl (by unfold cmpP;omega)|fail)|fail)
  refine W.y rfl rfl (Y.eqlStrT (rfl : ([61] : Bs) = [61]) rfl rfl) ?_
  (repeat first|refine .seq ?_|refine .region ?_|refine .block ?_|refine .skip ?_|refine .ret ?_|refine .exit ?_|refine .yes rfl ?_|refine .no rfl ?_|refine .nil ?_|refine .go ?_|refine .thenExit ?_|refine .thenRet ?_|refine .inExit ?_|refine .outExit rfl ?_|refine .inNormal ?_|refine .inRet ?_|refine .off rfl rfl ?_|refine .offU rfl rfl rfl ?_|(apply W.y rfl rfl;first|exact .move rfl|exact .assign rfl|exact .fieldC rfl|exact .loadW rfl (by (first|apply Ld.oneC|apply Ld.two|apply Ld.three|apply Ld.four|apply Ld.five);repeat(first|assumption|exact Row.cell (by assumption) (by first|rfl|assumption)))|exact .nilCheck rfl|exact .lenC rfl|exact .lenStrC rfl|exact .extract rfl rfl|exact .not rfl|exact .pickT rfl rfl|exact .pickF rfl rfl|exact .buildC rfl rfl|exact .indexC _ rfl rfl rfl (by omega)|exact .indexC 0 rfl rfl rfl (by omega)|exact .indexC 1 rfl rfl rfl (by omega)|exact .indexC 2 rfl rfl rfl (by omega)|exact .indexArrC _ rfl rfl rfl (by omega)|exact .indexArrC 0 rfl rfl rfl (by omega)|exact .indexArrC 1 rfl rfl rfl (by omega)|exact .indexArrC 2 rfl rfl rfl (by omega)|exact .add _ rfl rfl (wrap_i64 (by omega))|exact .sub _ rfl rfl (wrap_i64 (by omega))|exact .rem _ rfl rfl (by decide) (Int.tmod_eq_emod_of_nonneg (by omega))|exact .cmpT rfl rfl rfl (by unfold cmpP;omega)|exact .cmpF rfl rfl rfl (by unfold cmpP;omega)|fail)|fail)
  exact E.ret1 rfl rfl ⟨rfl, (k1.then k2).then k3⟩
end Go.Proofs.YtmlhjahbbcgpaaaDoor
