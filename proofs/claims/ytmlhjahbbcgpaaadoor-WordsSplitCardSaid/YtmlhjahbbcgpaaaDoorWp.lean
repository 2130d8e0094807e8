/- rhizomelaw08.WordsMoved, whole. -/
import Derived.Test.YtmlhjahbbcgpaaaDoorWo
namespace Go.Proofs.YtmlhjahbbcgpaaaDoor
open Vb Go.RowKit

theorem split_long (s : Bs) (h : 1024 < s.length) : splitP s = ([], 0, 0, 3) := by unfold splitP; rw [if_pos h]
theorem split_count (s : Bs) : (splitP s).1.length ≤ 1024 := by
  by_cases h : 1024 < s.length
  · rw [split_long s h]; simp
  · have hrl := runes_len _ s (Nat.le_refl _)
    have hol := out_len (runes s).1 MS.init
    have hol0 : MS.init.out.length = 0 := rfl
    unfold splitP
    rw [if_neg h]
    simp only
    repeat' split
    all_goals first | (simp; done) | (simp only; omega)
theorem split_texts (s : Bs) : ∀ x ∈ (splitP s).1, x.text.length ≤ 1000000 := by
  by_cases h : (splitP s).2.2.2 = 0
  · intro x hx; have := (split_words s h x hx).2; omega
  · rw [split_bad s h]; simp

set_option maxHeartbeats 3200000 in
theorem moved_tail (w : World) (hT : Tabs w) (s : Bs) (g : List Nat) (hs : s.length ≤ 1024) (hg : g.length ≤ 20) :
    C Tryd.prog 176 (pc [1,1,1,1] Tryd.f7) (Post 176 (fun x L' w' => x = .ret ∧ L' = [(4, .bool true)] ∧ Keep Non w w')) [(0, str s), (5, str (gapsB g))] w := by
  have hz := str_size s
  have hz2 := str_size (gapsB g)
  have hgl := gaps_len g
  have hc1 := split_count s
  have hsm := split_small s
  have htx := split_texts s
  have hbad := split_bad s
  have hmv := split_moved g s
  (repeat first|refine .seq ?_|refine .region ?_|refine .block ?_|refine .skip ?_|refine .ret ?_|refine .exit ?_|refine .yes rfl ?_|refine .no rfl ?_|refine .nil ?_|refine .go ?_|refine .thenExit ?_|refine .thenRet ?_|refine .inExit ?_|refine .outExit rfl ?_|refine .inNormal ?_|refine .inRet ?_|refine .off rfl rfl ?_|refine .offU rfl rfl rfl ?_|(apply W.y rfl rfl;first|exact .move rfl|exact .assign rfl|exact .fieldC rfl|exact .loadW rfl (by (first|apply Ld.oneC|apply Ld.two|apply Ld.three|apply Ld.four|apply Ld.five);repeat(first|assumption|exact Row.cell (by assumption) (by first|rfl|assumption)))|exact .nilCheck rfl|exact .lenC rfl|exact .lenStrC rfl|exact .extract rfl rfl|exact .not rfl|exact .pickT rfl rfl|exact .pickF rfl rfl|exact .buildC rfl rfl|exact .indexC _ rfl rfl rfl (by omega)|exact .indexC 0 rfl rfl rfl (by omega)|exact .indexC 1 rfl rfl rfl (by omega)|exact .indexC 2 rfl rfl rfl (by omega)|exact .indexArrC _ rfl rfl rfl (by omega)|exact .indexArrC 0 rfl rfl rfl (by omega)|exact .indexArrC 1 rfl rfl rfl (by omega)|exact .indexArrC 2 rfl rfl rfl (by omega)|exact .add _ rfl rfl (wrap_i64 (by omega))|exact .sub _ rfl rfl (wrap_i64 (by omega))|exact .rem _ rfl rfl (by decide) (Int.tmod_eq_emod_of_nonneg (by omega))|exact .cmpT rfl rfl rfl (by unfold cmpP;omega)|exact .cmpF rfl rfl rfl (by unfold cmpP;omega)|fail)|fail)
  refine W.st rfl rfl (St.callC rfl (split_spec s w hT (by omega))) (fun v1 w1 h1 => ?_)
  obtain ⟨vo1, rfl, hs1, _, k1⟩ := h1
  have hT1 := hT.up k1
  (repeat first|refine .seq ?_|refine .region ?_|refine .block ?_|refine .skip ?_|refine .ret ?_|refine .exit ?_|refine .yes rfl ?_|refine .no rfl ?_|refine .nil ?_|refine .go ?_|refine .thenExit ?_|refine .thenRet ?_|refine .inExit ?_|refine .outExit rfl ?_|refine .inNormal ?_|refine .inRet ?_|refine .off rfl rfl ?_|refine .offU rfl rfl rfl ?_|(apply W.y rfl rfl;first|exact .move rfl|exact .assign rfl|exact .fieldC rfl|exact .loadW rfl (by (first|apply Ld.oneC|apply Ld.two|apply Ld.three|apply Ld.four|apply Ld.five);repeat(first|assumption|exact Row.cell (by assumption) (by first|rfl|assumption)))|exact .nilCheck rfl|exact .lenC rfl|exact .lenStrC rfl|exact .extract rfl rfl|exact .not rfl|exact .pickT rfl rfl|exact .pickF rfl rfl|exact .buildC rfl rfl|exact .indexC _ rfl rfl rfl (by omega)|exact .indexC 0 rfl rfl rfl (by omega)|exact .indexC 1 rfl rfl rfl (by omega)|exact .indexC 2 rfl rfl rfl (by omega)|exact .indexArrC _ rfl rfl rfl (by omega)|exact .indexArrC 0 rfl rfl rfl (by omega)|exact .indexArrC 1 rfl rfl rfl (by omega)|exact .indexArrC 2 rfl rfl rfl (by omega)|exact .add _ rfl rfl (wrap_i64 (by omega))|exact .sub _ rfl rfl (wrap_i64 (by omega))|exact .rem _ rfl rfl (by decide) (Int.tmod_eq_emod_of_nonneg (by omega))|exact .cmpT rfl rfl rfl (by unfold cmpP;omega)|exact .cmpF rfl rfl rfl (by unfold cmpP;omega)|fail)|fail)
  refine W.y rfl rfl (Y.addStr rfl rfl (by omega)) ?_
  refine W.st rfl rfl (St.callC rfl (split_spec (gapsB g ++ s) w1 hT1 (by rw [List.length_append]; omega))) (fun v2 w2 h2 => ?_)
  obtain ⟨vo2, rfl, hs2, _, k2⟩ := h2
  have hT2 := hT1.up k2
  by_cases hbig : 1024 < (gapsB g).length + s.length
  · rw [split_long (gapsB g ++ s) (by rw [List.length_append]; omega)] at hs2 ⊢
    simp only at hs2 ⊢
    (repeat first|refine .seq ?_|refine .region ?_|refine .block ?_|refine .skip ?_|refine .ret ?_|refine .exit ?_|refine .yes rfl ?_|refine .no rfl ?_|refine .nil ?_|refine .go ?_|refine .thenExit ?_|refine .thenRet ?_|refine .inExit ?_|refine .outExit rfl ?_|refine .inNormal ?_|refine .inRet ?_|refine .off rfl rfl ?_|refine .offU rfl rfl rfl ?_|(apply W.y rfl rfl;first|exact .move rfl|exact .assign rfl|exact .fieldC rfl|exact .loadW rfl (by (first|apply Ld.oneC|apply Ld.two|apply Ld.three|apply Ld.four|apply Ld.five);repeat(first|assumption|exact Row.cell (by assumption) (by first|rfl|assumption)))|exact .nilCheck rfl|exact .lenC rfl|exact .lenStrC rfl|exact .extract rfl rfl|exact .not rfl|exact .pickT rfl rfl|exact .pickF rfl rfl|exact .buildC rfl rfl|exact .indexC _ rfl rfl rfl (by omega)|exact .indexC 0 rfl rfl rfl (by omega)|exact .indexC 1 rfl rfl rfl (by omega)|exact .indexC 2 rfl rfl rfl (by omega)|exact .indexArrC _ rfl rfl rfl (by omega)|exact .indexArrC 0 rfl rfl rfl (by omega)|exact .indexArrC 1 rfl rfl rfl (by omega)|exact .indexArrC 2 rfl rfl rfl (by omega)|exact .add _ rfl rfl (wrap_i64 (by omega))|exact .sub _ rfl rfl (wrap_i64 (by omega))|exact .rem _ rfl rfl (by decide) (Int.tmod_eq_emod_of_nonneg (by omega))|exact .cmpT rfl rfl rfl (by unfold cmpP;omega)|exact .cmpF rfl rfl rfl (by unfold cmpP;omega)|fail)|fail)
    exact E.endR _ ⟨rfl, rfl, k1.then k2⟩ ⟨rfl, trivial⟩
  · obtain ⟨e2, hpos, hpos2⟩ := hmv (by omega)
    have hrl := runes_len _ (gapsB g) (Nat.le_refl _)
    have hall := (gaps_piece g).all
    rw [hall] at hrl
    have hpl := placeOf_le (gapsR g) (1, 1)
    have hpp := placeOf_pos (gapsR g) (1, 1) (Nat.le_refl _) (Nat.le_refl _)
    have hend := end_spec (gapsB g) w2 hT2 (by omega)
    rw [hall] at hend
    simp only at hrl hpl hend
    rw [e2] at hs2 ⊢
    generalize placeOf (1, 1) (gapsR g) = e at *
    generalize hsp : splitP s = sp at *
    obtain ⟨l, ln, cl, er⟩ := sp
    simp only at *
    have hs1' := hs1.keep k2 (fun _ _ => non_not _)
    obtain ⟨A, c, rfl, _⟩ := hs1'.at
    obtain ⟨A2, c2, rfl, _⟩ := hs2.at
    rw [List.length_map] at hs2 ⊢
    have hz3 : (⟨(gapsB g ++ s).toArray⟩ : ByteArray).size = (gapsB g).length + s.length := by rw [str_size, List.length_append]
    by_cases her : er = 0
    · subst her
      rw [if_pos rfl]
      simp only
      (repeat first|refine .seq ?_|refine .region ?_|refine .block ?_|refine .skip ?_|refine .ret ?_|refine .exit ?_|refine .yes rfl ?_|refine .no rfl ?_|refine .nil ?_|refine .go ?_|refine .thenExit ?_|refine .thenRet ?_|refine .inExit ?_|refine .outExit rfl ?_|refine .inNormal ?_|refine .inRet ?_|refine .off rfl rfl ?_|refine .offU rfl rfl rfl ?_|(apply W.y rfl rfl;first|exact .move rfl|exact .assign rfl|exact .fieldC rfl|exact .loadW rfl (by (first|apply Ld.oneC|apply Ld.two|apply Ld.three|apply Ld.four|apply Ld.five);repeat(first|assumption|exact Row.cell (by assumption) (by first|rfl|assumption)))|exact .nilCheck rfl|exact .lenC rfl|exact .lenStrC rfl|exact .extract rfl rfl|exact .not rfl|exact .pickT rfl rfl|exact .pickF rfl rfl|exact .buildC rfl rfl|exact .indexC _ rfl rfl rfl (by omega)|exact .indexC 0 rfl rfl rfl (by omega)|exact .indexC 1 rfl rfl rfl (by omega)|exact .indexC 2 rfl rfl rfl (by omega)|exact .indexArrC _ rfl rfl rfl (by omega)|exact .indexArrC 0 rfl rfl rfl (by omega)|exact .indexArrC 1 rfl rfl rfl (by omega)|exact .indexArrC 2 rfl rfl rfl (by omega)|exact .add _ rfl rfl (wrap_i64 (by omega))|exact .sub _ rfl rfl (wrap_i64 (by omega))|exact .rem _ rfl rfl (by decide) (Int.tmod_eq_emod_of_nonneg (by omega))|exact .cmpT rfl rfl rfl (by unfold cmpP;omega)|exact .cmpF rfl rfl rfl (by unfold cmpP;omega)|fail)|fail)
      refine W.st rfl rfl (St.callC rfl hend) (fun v3 w3 h3 => ?_)
      obtain ⟨rfl, k3⟩ := h3
      have ha := (hs1'.keep k3 (fun _ _ => non_not _)).mono (G := fun _ => True) (fun _ _ => trivial)
      have hb := (hs2.keep k3 (fun _ _ => non_not _)).mono (G := fun _ => True) (fun _ _ => trivial)
      clear hs1 hs1' hs2 hbad hmv
      (repeat first|refine C.use (moved_loop A A2 c c2 l e (fun _ => True) w3 ha hb (fun x hx => ⟨(hsm x hx).1, (hsm x hx).2, htx x hx⟩) ⟨hpp.1, hpp.2, by omega, by omega⟩ hc1) ⟨rfl, rfl, rfl, rfl, trivial⟩ ?_|refine .seq ?_|refine .region ?_|refine .block ?_|refine .skip ?_|refine .ret ?_|refine .exit ?_|refine .yes rfl ?_|refine .no rfl ?_|refine .nil ?_|refine .go ?_|refine .thenExit ?_|refine .thenRet ?_|refine .inExit ?_|refine .outExit rfl ?_|refine .inNormal ?_|refine .inRet ?_|refine .off rfl rfl ?_|refine .offU rfl rfl rfl ?_|(apply W.y rfl rfl;first|exact .move rfl|exact .assign rfl|exact .fieldC rfl|exact .loadW rfl (by (first|apply Ld.oneC|apply Ld.two|apply Ld.three|apply Ld.four|apply Ld.five);repeat(first|assumption|exact Row.cell (by assumption) (by first|rfl|assumption)))|exact .nilCheck rfl|exact .lenC rfl|exact .lenStrC rfl|exact .extract rfl rfl|exact .not rfl|exact .pickT rfl rfl|exact .pickF rfl rfl|exact .buildC rfl rfl|exact .indexC _ rfl rfl rfl (by omega)|exact .indexC 0 rfl rfl rfl (by omega)|exact .indexC 1 rfl rfl rfl (by omega)|exact .indexC 2 rfl rfl rfl (by omega)|exact .indexArrC _ rfl rfl rfl (by omega)|exact .indexArrC 0 rfl rfl rfl (by omega)|exact .indexArrC 1 rfl rfl rfl (by omega)|exact .indexArrC 2 rfl rfl rfl (by omega)|exact .add _ rfl rfl (wrap_i64 (by omega))|exact .sub _ rfl rfl (wrap_i64 (by omega))|exact .rem _ rfl rfl (by decide) (Int.tmod_eq_emod_of_nonneg (by omega))|exact .cmpT rfl rfl rfl (by unfold cmpP;omega)|exact .cmpF rfl rfl rfl (by unfold cmpP;omega)|fail)|fail)
      rintro x L' w4 ⟨rfl, rfl, k4⟩
      (repeat first|refine .seq ?_|refine .region ?_|refine .block ?_|refine .skip ?_|refine .ret ?_|refine .exit ?_|refine .yes rfl ?_|refine .no rfl ?_|refine .nil ?_|refine .go ?_|refine .thenExit ?_|refine .thenRet ?_|refine .inExit ?_|refine .outExit rfl ?_|refine .inNormal ?_|refine .inRet ?_|refine .off rfl rfl ?_|refine .offU rfl rfl rfl ?_|(apply W.y rfl rfl;first|exact .move rfl|exact .assign rfl|exact .fieldC rfl|exact .loadW rfl (by (first|apply Ld.oneC|apply Ld.two|apply Ld.three|apply Ld.four|apply Ld.five);repeat(first|assumption|exact Row.cell (by assumption) (by first|rfl|assumption)))|exact .nilCheck rfl|exact .lenC rfl|exact .lenStrC rfl|exact .extract rfl rfl|exact .not rfl|exact .pickT rfl rfl|exact .pickF rfl rfl|exact .buildC rfl rfl|exact .indexC _ rfl rfl rfl (by omega)|exact .indexC 0 rfl rfl rfl (by omega)|exact .indexC 1 rfl rfl rfl (by omega)|exact .indexC 2 rfl rfl rfl (by omega)|exact .indexArrC _ rfl rfl rfl (by omega)|exact .indexArrC 0 rfl rfl rfl (by omega)|exact .indexArrC 1 rfl rfl rfl (by omega)|exact .indexArrC 2 rfl rfl rfl (by omega)|exact .add _ rfl rfl (wrap_i64 (by omega))|exact .sub _ rfl rfl (wrap_i64 (by omega))|exact .rem _ rfl rfl (by decide) (Int.tmod_eq_emod_of_nonneg (by omega))|exact .cmpT rfl rfl rfl (by unfold cmpP;omega)|exact .cmpF rfl rfl rfl (by unfold cmpP;omega)|fail)|fail)
      exact E.endR _ ⟨rfl, rfl, ((k1.then k2).then k3).then k4⟩ ⟨rfl, trivial⟩
    · have hl0 := hbad her
      subst hl0
      rw [if_neg her]
      have hpos := hpos her
      have e0 : ([] : List WV).length = 0 := rfl
      have ep : (mvP e (ln, cl)).1 = ln + e.1 - 1 := rfl
      simp only
      rw [ep]
      generalize hp2 : (mvP e (ln, cl)).2 = cc
      have ep2 : cc = if ln = 1 then cl + e.2 - 1 else cl := hp2.symm
      (repeat first|refine .seq ?_|refine .region ?_|refine .block ?_|refine .skip ?_|refine .ret ?_|refine .exit ?_|refine .yes rfl ?_|refine .no rfl ?_|refine .nil ?_|refine .go ?_|refine .thenExit ?_|refine .thenRet ?_|refine .inExit ?_|refine .outExit rfl ?_|refine .inNormal ?_|refine .inRet ?_|refine .off rfl rfl ?_|refine .offU rfl rfl rfl ?_|(apply W.y rfl rfl;first|exact .move rfl|exact .assign rfl|exact .fieldC rfl|exact .loadW rfl (by (first|apply Ld.oneC|apply Ld.two|apply Ld.three|apply Ld.four|apply Ld.five);repeat(first|assumption|exact Row.cell (by assumption) (by first|rfl|assumption)))|exact .nilCheck rfl|exact .lenC rfl|exact .lenStrC rfl|exact .extract rfl rfl|exact .not rfl|exact .pickT rfl rfl|exact .pickF rfl rfl|exact .buildC rfl rfl|exact .indexC _ rfl rfl rfl (by omega)|exact .indexC 0 rfl rfl rfl (by omega)|exact .indexC 1 rfl rfl rfl (by omega)|exact .indexC 2 rfl rfl rfl (by omega)|exact .indexArrC _ rfl rfl rfl (by omega)|exact .indexArrC 0 rfl rfl rfl (by omega)|exact .indexArrC 1 rfl rfl rfl (by omega)|exact .indexArrC 2 rfl rfl rfl (by omega)|exact .add _ rfl rfl (wrap_i64 (by omega))|exact .sub _ rfl rfl (wrap_i64 (by omega))|exact .rem _ rfl rfl (by decide) (Int.tmod_eq_emod_of_nonneg (by omega))|exact .cmpT rfl rfl rfl (by unfold cmpP;omega)|exact .cmpF rfl rfl rfl (by unfold cmpP;omega)|fail)|fail)
      refine W.st rfl rfl (St.callC rfl hend) (fun v3 w3 h3 => ?_)
      obtain ⟨rfl, k3⟩ := h3
      have ha := (hs1'.keep k3 (fun _ _ => non_not _)).mono (G := fun _ => True) (fun _ _ => trivial)
      have hb := (hs2.keep k3 (fun _ _ => non_not _)).mono (G := fun _ => True) (fun _ _ => trivial)
      clear hs1 hs1' hs2 hmv
      have hloop := moved_loop A A2 c c2 [] e (fun _ => True) w3 ha hb (fun x hx => by simp at hx) ⟨hpp.1, hpp.2, by omega, by omega⟩ (by simp)
      by_cases h1 : ln = 1
      · rw [if_pos h1] at ep2
        (repeat first|refine C.use hloop ⟨rfl, rfl, rfl, rfl, trivial⟩ ?_|refine .seq ?_|refine .region ?_|refine .block ?_|refine .skip ?_|refine .ret ?_|refine .exit ?_|refine .yes rfl ?_|refine .no rfl ?_|refine .nil ?_|refine .go ?_|refine .thenExit ?_|refine .thenRet ?_|refine .inExit ?_|refine .outExit rfl ?_|refine .inNormal ?_|refine .inRet ?_|refine .off rfl rfl ?_|refine .offU rfl rfl rfl ?_|(apply W.y rfl rfl;first|exact .move rfl|exact .assign rfl|exact .fieldC rfl|exact .loadW rfl (by (first|apply Ld.oneC|apply Ld.two|apply Ld.three|apply Ld.four|apply Ld.five);repeat(first|assumption|exact Row.cell (by assumption) (by first|rfl|assumption)))|exact .nilCheck rfl|exact .lenC rfl|exact .lenStrC rfl|exact .extract rfl rfl|exact .not rfl|exact .pickT rfl rfl|exact .pickF rfl rfl|exact .buildC rfl rfl|exact .indexC _ rfl rfl rfl (by omega)|exact .indexC 0 rfl rfl rfl (by omega)|exact .indexC 1 rfl rfl rfl (by omega)|exact .indexC 2 rfl rfl rfl (by omega)|exact .indexArrC _ rfl rfl rfl (by omega)|exact .indexArrC 0 rfl rfl rfl (by omega)|exact .indexArrC 1 rfl rfl rfl (by omega)|exact .indexArrC 2 rfl rfl rfl (by omega)|exact .add _ rfl rfl (wrap_i64 (by omega))|exact .sub _ rfl rfl (wrap_i64 (by omega))|exact .rem _ rfl rfl (by decide) (Int.tmod_eq_emod_of_nonneg (by omega))|exact .cmpT rfl rfl rfl (by unfold cmpP;omega)|exact .cmpF rfl rfl rfl (by unfold cmpP;omega)|fail)|fail)
        rintro x L' w4 ⟨rfl, rfl, k4⟩
        exact E.endR _ ⟨rfl, rfl, ((k1.then k2).then k3).then k4⟩ ⟨rfl, trivial⟩
      · (repeat first|refine C.use hloop ⟨rfl, rfl, rfl, rfl, trivial⟩ ?_|refine .seq ?_|refine .region ?_|refine .block ?_|refine .skip ?_|refine .ret ?_|refine .exit ?_|refine .yes rfl ?_|refine .no rfl ?_|refine .nil ?_|refine .go ?_|refine .thenExit ?_|refine .thenRet ?_|refine .inExit ?_|refine .outExit rfl ?_|refine .inNormal ?_|refine .inRet ?_|refine .off rfl rfl ?_|refine .offU rfl rfl rfl ?_|(apply W.y rfl rfl;first|exact .move rfl|exact .assign rfl|exact .fieldC rfl|exact .loadW rfl (by (first|apply Ld.oneC|apply Ld.two|apply Ld.three|apply Ld.four|apply Ld.five);repeat(first|assumption|exact Row.cell (by assumption) (by first|rfl|assumption)))|exact .nilCheck rfl|exact .lenC rfl|exact .lenStrC rfl|exact .extract rfl rfl|exact .not rfl|exact .pickT rfl rfl|exact .pickF rfl rfl|exact .buildC rfl rfl|exact .indexC _ rfl rfl rfl (by omega)|exact .indexC 0 rfl rfl rfl (by omega)|exact .indexC 1 rfl rfl rfl (by omega)|exact .indexC 2 rfl rfl rfl (by omega)|exact .indexArrC _ rfl rfl rfl (by omega)|exact .indexArrC 0 rfl rfl rfl (by omega)|exact .indexArrC 1 rfl rfl rfl (by omega)|exact .indexArrC 2 rfl rfl rfl (by omega)|exact .add _ rfl rfl (wrap_i64 (by omega))|exact .sub _ rfl rfl (wrap_i64 (by omega))|exact .rem _ rfl rfl (by decide) (Int.tmod_eq_emod_of_nonneg (by omega))|exact .cmpT rfl rfl rfl (by unfold cmpP;omega)|exact .cmpF rfl rfl rfl (by unfold cmpP;omega)|fail)|fail)
        rintro x L' w4 ⟨rfl, rfl, k4⟩
        exact E.endR _ ⟨rfl, rfl, ((k1.then k2).then k3).then k4⟩ ⟨rfl, trivial⟩

set_option maxHeartbeats 3200000 in
theorem moved_spec (F : Nat → Prop) (s : Bs) (v : Value) (gs : List UInt8) (w : World) (hT : Tabs w) (hB : Bytes F w v gs) : Meets Tryd.prog 7 #[str s, v] w (fun r w' => r = .bool true ∧ Keep Non w w') := by
  have hz := str_size s
  refine Meets.enter Tryd.func7 Tryd.ntmps7 rfl rfl ?_
  (repeat first|refine .seq ?_|refine .region ?_|refine .block ?_|refine .skip ?_|refine .ret ?_|refine .exit ?_|refine .yes rfl ?_|refine .no rfl ?_|refine .nil ?_|refine .go ?_|refine .thenExit ?_|refine .thenRet ?_|refine .inExit ?_|refine .outExit rfl ?_|refine .inNormal ?_|refine .inRet ?_|refine .off rfl rfl ?_|refine .offU rfl rfl rfl ?_|(apply W.y rfl rfl;first|exact .move rfl|exact .assign rfl|exact .fieldC rfl|exact .loadW rfl (by (first|apply Ld.oneC|apply Ld.two|apply Ld.three|apply Ld.four|apply Ld.five);repeat(first|assumption|exact Row.cell (by assumption) (by first|rfl|assumption)))|exact .nilCheck rfl|exact .lenC rfl|exact .lenStrC rfl|exact .extract rfl rfl|exact .not rfl|exact .pickT rfl rfl|exact .pickF rfl rfl|exact .buildC rfl rfl|exact .indexC _ rfl rfl rfl (by omega)|exact .indexC 0 rfl rfl rfl (by omega)|exact .indexC 1 rfl rfl rfl (by omega)|exact .indexC 2 rfl rfl rfl (by omega)|exact .indexArrC _ rfl rfl rfl (by omega)|exact .indexArrC 0 rfl rfl rfl (by omega)|exact .indexArrC 1 rfl rfl rfl (by omega)|exact .indexArrC 2 rfl rfl rfl (by omega)|exact .add _ rfl rfl (wrap_i64 (by omega))|exact .sub _ rfl rfl (wrap_i64 (by omega))|exact .rem _ rfl rfl (by decide) (Int.tmod_eq_emod_of_nonneg (by omega))|exact .cmpT rfl rfl rfl (by unfold cmpP;omega)|exact .cmpF rfl rfl rfl (by unfold cmpP;omega)|fail)|fail)
  refine W.st rfl rfl (St.callC rfl (awake_spec w hT)) (fun v1 w1 h1 => ?_)
  obtain ⟨rfl, k1⟩ := h1
  have hT1 := hT.up k1
  by_cases hl : 1024 < s.length
  · (repeat first|refine .seq ?_|refine .region ?_|refine .block ?_|refine .skip ?_|refine .ret ?_|refine .exit ?_|refine .yes rfl ?_|refine .no rfl ?_|refine .nil ?_|refine .go ?_|refine .thenExit ?_|refine .thenRet ?_|refine .inExit ?_|refine .outExit rfl ?_|refine .inNormal ?_|refine .inRet ?_|refine .off rfl rfl ?_|refine .offU rfl rfl rfl ?_|(apply W.y rfl rfl;first|exact .move rfl|exact .assign rfl|exact .fieldC rfl|exact .loadW rfl (by (first|apply Ld.oneC|apply Ld.two|apply Ld.three|apply Ld.four|apply Ld.five);repeat(first|assumption|exact Row.cell (by assumption) (by first|rfl|assumption)))|exact .nilCheck rfl|exact .lenC rfl|exact .lenStrC rfl|exact .extract rfl rfl|exact .not rfl|exact .pickT rfl rfl|exact .pickF rfl rfl|exact .buildC rfl rfl|exact .indexC _ rfl rfl rfl (by omega)|exact .indexC 0 rfl rfl rfl (by omega)|exact .indexC 1 rfl rfl rfl (by omega)|exact .indexC 2 rfl rfl rfl (by omega)|exact .indexArrC _ rfl rfl rfl (by omega)|exact .indexArrC 0 rfl rfl rfl (by omega)|exact .indexArrC 1 rfl rfl rfl (by omega)|exact .indexArrC 2 rfl rfl rfl (by omega)|exact .add _ rfl rfl (wrap_i64 (by omega))|exact .sub _ rfl rfl (wrap_i64 (by omega))|exact .rem _ rfl rfl (by decide) (Int.tmod_eq_emod_of_nonneg (by omega))|exact .cmpT rfl rfl rfl (by unfold cmpP;omega)|exact .cmpF rfl rfl rfl (by unfold cmpP;omega)|fail)|fail)
    refine W.st rfl rfl (St.callC rfl (awake_spec w1 hT1)) (fun v2 w2 h2 => ?_)
    obtain ⟨rfl, k2⟩ := h2
    (repeat first|refine .seq ?_|refine .region ?_|refine .block ?_|refine .skip ?_|refine .ret ?_|refine .exit ?_|refine .yes rfl ?_|refine .no rfl ?_|refine .nil ?_|refine .go ?_|refine .thenExit ?_|refine .thenRet ?_|refine .inExit ?_|refine .outExit rfl ?_|refine .inNormal ?_|refine .inRet ?_|refine .off rfl rfl ?_|refine .offU rfl rfl rfl ?_|(apply W.y rfl rfl;first|exact .move rfl|exact .assign rfl|exact .fieldC rfl|exact .loadW rfl (by (first|apply Ld.oneC|apply Ld.two|apply Ld.three|apply Ld.four|apply Ld.five);repeat(first|assumption|exact Row.cell (by assumption) (by first|rfl|assumption)))|exact .nilCheck rfl|exact .lenC rfl|exact .lenStrC rfl|exact .extract rfl rfl|exact .not rfl|exact .pickT rfl rfl|exact .pickF rfl rfl|exact .buildC rfl rfl|exact .indexC _ rfl rfl rfl (by omega)|exact .indexC 0 rfl rfl rfl (by omega)|exact .indexC 1 rfl rfl rfl (by omega)|exact .indexC 2 rfl rfl rfl (by omega)|exact .indexArrC _ rfl rfl rfl (by omega)|exact .indexArrC 0 rfl rfl rfl (by omega)|exact .indexArrC 1 rfl rfl rfl (by omega)|exact .indexArrC 2 rfl rfl rfl (by omega)|exact .add _ rfl rfl (wrap_i64 (by omega))|exact .sub _ rfl rfl (wrap_i64 (by omega))|exact .rem _ rfl rfl (by decide) (Int.tmod_eq_emod_of_nonneg (by omega))|exact .cmpT rfl rfl rfl (by unfold cmpP;omega)|exact .cmpF rfl rfl rfl (by unfold cmpP;omega)|fail)|fail)
    exact E.ret1 rfl rfl ⟨rfl, k1.then k2⟩
  have hB1 := hB.keep k1 (fun _ _ => non_not _)
  (repeat first|refine C.cut (fun L w' => L = [(0, str s), (1, v), (5, str [])] ∧ w' = w1) ?_ ?_|refine .seq ?_|refine .region ?_|refine .block ?_|refine .skip ?_|refine .ret ?_|refine .exit ?_|refine .yes rfl ?_|refine .no rfl ?_|refine .nil ?_|refine .go ?_|refine .thenExit ?_|refine .thenRet ?_|refine .inExit ?_|refine .outExit rfl ?_|refine .inNormal ?_|refine .inRet ?_|refine .off rfl rfl ?_|refine .offU rfl rfl rfl ?_|(apply W.y rfl rfl;first|exact .move rfl|exact .assign rfl|exact .fieldC rfl|exact .loadW rfl (by (first|apply Ld.oneC|apply Ld.two|apply Ld.three|apply Ld.four|apply Ld.five);repeat(first|assumption|exact Row.cell (by assumption) (by first|rfl|assumption)))|exact .nilCheck rfl|exact .lenC rfl|exact .lenStrC rfl|exact .extract rfl rfl|exact .not rfl|exact .pickT rfl rfl|exact .pickF rfl rfl|exact .buildC rfl rfl|exact .indexC _ rfl rfl rfl (by omega)|exact .indexC 0 rfl rfl rfl (by omega)|exact .indexC 1 rfl rfl rfl (by omega)|exact .indexC 2 rfl rfl rfl (by omega)|exact .indexArrC _ rfl rfl rfl (by omega)|exact .indexArrC 0 rfl rfl rfl (by omega)|exact .indexArrC 1 rfl rfl rfl (by omega)|exact .indexArrC 2 rfl rfl rfl (by omega)|exact .add _ rfl rfl (wrap_i64 (by omega))|exact .sub _ rfl rfl (wrap_i64 (by omega))|exact .rem _ rfl rfl (by decide) (Int.tmod_eq_emod_of_nonneg (by omega))|exact .cmpT rfl rfl rfl (by unfold cmpP;omega)|exact .cmpF rfl rfl rfl (by unfold cmpP;omega)|fail)|fail)
  · exact E.meet _ ⟨rfl, rfl⟩ ⟨rfl, rfl, rfl, trivial⟩
  rintro L w2 ⟨rfl, rfl⟩
  refine C.cut (fun L w' => L = [(0, str s), (5, str (gapsB (gapsOf gs)))] ∧ Keep Non w w') ?_ ?_
  · (repeat first|refine C.use (moved_gaps F s v gs w2 hB1) ⟨rfl, rfl, rfl, rfl, trivial⟩ ?_|refine .seq ?_|refine .region ?_|refine .block ?_|refine .skip ?_|refine .ret ?_|refine .exit ?_|refine .yes rfl ?_|refine .no rfl ?_|refine .nil ?_|refine .go ?_|refine .thenExit ?_|refine .thenRet ?_|refine .inExit ?_|refine .outExit rfl ?_|refine .inNormal ?_|refine .inRet ?_|refine .off rfl rfl ?_|refine .offU rfl rfl rfl ?_|(apply W.y rfl rfl;first|exact .move rfl|exact .assign rfl|exact .fieldC rfl|exact .loadW rfl (by (first|apply Ld.oneC|apply Ld.two|apply Ld.three|apply Ld.four|apply Ld.five);repeat(first|assumption|exact Row.cell (by assumption) (by first|rfl|assumption)))|exact .nilCheck rfl|exact .lenC rfl|exact .lenStrC rfl|exact .extract rfl rfl|exact .not rfl|exact .pickT rfl rfl|exact .pickF rfl rfl|exact .buildC rfl rfl|exact .indexC _ rfl rfl rfl (by omega)|exact .indexC 0 rfl rfl rfl (by omega)|exact .indexC 1 rfl rfl rfl (by omega)|exact .indexC 2 rfl rfl rfl (by omega)|exact .indexArrC _ rfl rfl rfl (by omega)|exact .indexArrC 0 rfl rfl rfl (by omega)|exact .indexArrC 1 rfl rfl rfl (by omega)|exact .indexArrC 2 rfl rfl rfl (by omega)|exact .add _ rfl rfl (wrap_i64 (by omega))|exact .sub _ rfl rfl (wrap_i64 (by omega))|exact .rem _ rfl rfl (by decide) (Int.tmod_eq_emod_of_nonneg (by omega))|exact .cmpT rfl rfl rfl (by unfold cmpP;omega)|exact .cmpF rfl rfl rfl (by unfold cmpP;omega)|fail)|fail)
    rintro e L' w3 ⟨rfl, rfl, k2⟩
    (repeat first|refine .seq ?_|refine .region ?_|refine .block ?_|refine .skip ?_|refine .ret ?_|refine .exit ?_|refine .yes rfl ?_|refine .no rfl ?_|refine .nil ?_|refine .go ?_|refine .thenExit ?_|refine .thenRet ?_|refine .inExit ?_|refine .outExit rfl ?_|refine .inNormal ?_|refine .inRet ?_|refine .off rfl rfl ?_|refine .offU rfl rfl rfl ?_|(apply W.y rfl rfl;first|exact .move rfl|exact .assign rfl|exact .fieldC rfl|exact .loadW rfl (by (first|apply Ld.oneC|apply Ld.two|apply Ld.three|apply Ld.four|apply Ld.five);repeat(first|assumption|exact Row.cell (by assumption) (by first|rfl|assumption)))|exact .nilCheck rfl|exact .lenC rfl|exact .lenStrC rfl|exact .extract rfl rfl|exact .not rfl|exact .pickT rfl rfl|exact .pickF rfl rfl|exact .buildC rfl rfl|exact .indexC _ rfl rfl rfl (by omega)|exact .indexC 0 rfl rfl rfl (by omega)|exact .indexC 1 rfl rfl rfl (by omega)|exact .indexC 2 rfl rfl rfl (by omega)|exact .indexArrC _ rfl rfl rfl (by omega)|exact .indexArrC 0 rfl rfl rfl (by omega)|exact .indexArrC 1 rfl rfl rfl (by omega)|exact .indexArrC 2 rfl rfl rfl (by omega)|exact .add _ rfl rfl (wrap_i64 (by omega))|exact .sub _ rfl rfl (wrap_i64 (by omega))|exact .rem _ rfl rfl (by decide) (Int.tmod_eq_emod_of_nonneg (by omega))|exact .cmpT rfl rfl rfl (by unfold cmpP;omega)|exact .cmpF rfl rfl rfl (by unfold cmpP;omega)|fail)|fail)
    exact E.meet _ ⟨rfl, k1.then k2⟩ ⟨rfl, rfl, trivial⟩
  · rintro L w2 ⟨rfl, k2⟩
    refine C.use (moved_tail w2 (hT.up k2) s (gapsOf gs) (by omega) (by unfold gapsOf; rw [List.length_map, List.length_take]; omega)) ⟨rfl, rfl, trivial⟩ ?_
    rintro x L' w3 ⟨rfl, rfl, k3⟩
    exact E.ret1 rfl rfl ⟨rfl, k2.then k3⟩
end Go.Proofs.YtmlhjahbbcgpaaaDoor
