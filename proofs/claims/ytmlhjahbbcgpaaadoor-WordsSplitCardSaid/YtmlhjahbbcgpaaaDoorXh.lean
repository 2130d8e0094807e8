/- rhizomeref08.Split, whole. -/
import Derived.Test.YtmlhjahbbcgpaaaDoorXg
namespace Go.Proofs.YtmlhjahbbcgpaaaDoor
open Vb Go.RowKit

/-- What lies in memory lies in its blocks. -/
theorem SRunes.inside {F : Nat → Prop} {w : World} {v : Value} {l : List R3} (h : SRunes F w v l) : SRunes (fun k => k < w.heap.size) w v l := by
  obtain ⟨A, c, hv, h1, h2, h3, he⟩ := h
  refine ⟨A, c, hv, h1, h2, h3, fun i x hi => ?_⟩
  obtain ⟨b, o, cs, g1, g2, g3, g4, g5⟩ := he i x hi
  refine ⟨b, o, cs, g1, ?_, g3, g4, g5⟩
  have hc : ∃ u, cs[0]? = some u := ⟨cs[0]'(by omega), List.getElem?_eq_getElem (by omega)⟩
  obtain ⟨u, hu⟩ := hc
  exact lt_of_cell (g4 0 u hu)

set_option maxHeartbeats 6400000 in
theorem rsplit_spec (s : Bs) (w : World) (hl : s.length ≤ 100000) :
    Meets Tryd.prog 10 #[str s] w (fun r w' => ∃ vo, r = .tuple #[vo, .int .i64 (splitP s).2.1, .int .i64 (splitP s).2.2.1, .int .i64 (splitP s).2.2.2] ∧ SWords (fun k => w.heap.size ≤ k) w' vo (splitP s).1 ∧ Keep Non w w') := by
  have hz := str_size s
  by_cases h1 : 1024 < s.length
  · have e : splitP s = ([], 0, 0, 3) := by unfold splitP; rw [if_pos h1]
    rw [e]
    refine Meets.enter Tryd.func10 Tryd.ntmps10 rfl rfl ?_
    (repeat first|refine .seq ?_|refine .region ?_|refine .block ?_|refine .skip ?_|refine .ret ?_|refine .exit ?_|refine .yes rfl ?_|refine .no rfl ?_|refine .nil ?_|refine .go ?_|refine .thenExit ?_|refine .thenRet ?_|refine .inExit ?_|refine .outExit rfl ?_|refine .inNormal ?_|refine .inRet ?_|refine .off rfl rfl ?_|refine .offU rfl rfl rfl ?_|(apply W.y rfl rfl;first|exact .move rfl|exact .assign rfl|exact .fieldC rfl|exact .loadW rfl (by (first|apply Ld.oneC|apply Ld.two|apply Ld.three|apply Ld.four|apply Ld.five);repeat(first|assumption|exact Row.cell (by assumption) (by first|rfl|assumption)))|exact .nilCheck rfl|exact .lenC rfl|exact .lenStrC rfl|exact .extract rfl rfl|exact .not rfl|exact .pickT rfl rfl|exact .pickF rfl rfl|exact .buildC rfl rfl|exact .indexC _ rfl rfl rfl (by omega)|exact .indexC 0 rfl rfl rfl (by omega)|exact .indexC 1 rfl rfl rfl (by omega)|exact .indexC 2 rfl rfl rfl (by omega)|exact .indexArrC _ rfl rfl rfl (by omega)|exact .indexArrC 0 rfl rfl rfl (by omega)|exact .indexArrC 1 rfl rfl rfl (by omega)|exact .indexArrC 2 rfl rfl rfl (by omega)|exact .add _ rfl rfl (wrap_i64 (by omega))|exact .sub _ rfl rfl (wrap_i64 (by omega))|exact .rem _ rfl rfl (by decide) (Int.tmod_eq_emod_of_nonneg (by omega))|exact .cmpT rfl rfl rfl (by unfold cmpP;omega)|exact .cmpF rfl rfl rfl (by unfold cmpP;omega)|fail)|fail)
    exact E.ret4 rfl rfl rfl rfl rfl ⟨_, rfl, Sl.nil, Keep.refl _ _⟩
  have hsp : splitP s = (if (runes s).2 = false then ([], (placeOf (1, 1) (runes s).1).1, (placeOf (1, 1) (runes s).1).2, 7) else if 0 < (mach MS.init (runes s).1).bad.1 then ([], (mach MS.init (runes s).1).bad.1, (mach MS.init (runes s).1).bad.2, 80) else ((mach MS.init (runes s).1).out, 0, 0, 0)) := by
    rw [← show (mach MS.init (runes s).1).at_ = placeOf (1, 1) (runes s).1 from mach_at _ _]; unfold splitP; rw [if_neg h1]
  have hrl := runes_len _ s (Nat.le_refl _)
  have hr3 := runes3_spec s w (by omega)
  generalize (runes s).1 = rs at *
  generalize (runes s).2 = ok at *
  generalize hpe : placeOf (1, 1) rs = pe at *
  refine Meets.enter Tryd.func10 Tryd.ntmps10 rfl rfl ?_
  (repeat first|refine .seq ?_|refine .region ?_|refine .block ?_|refine .skip ?_|refine .ret ?_|refine .exit ?_|refine .yes rfl ?_|refine .no rfl ?_|refine .nil ?_|refine .go ?_|refine .thenExit ?_|refine .thenRet ?_|refine .inExit ?_|refine .outExit rfl ?_|refine .inNormal ?_|refine .inRet ?_|refine .off rfl rfl ?_|refine .offU rfl rfl rfl ?_|(apply W.y rfl rfl;first|exact .move rfl|exact .assign rfl|exact .fieldC rfl|exact .loadW rfl (by (first|apply Ld.oneC|apply Ld.two|apply Ld.three|apply Ld.four|apply Ld.five);repeat(first|assumption|exact Row.cell (by assumption) (by first|rfl|assumption)))|exact .nilCheck rfl|exact .lenC rfl|exact .lenStrC rfl|exact .extract rfl rfl|exact .not rfl|exact .pickT rfl rfl|exact .pickF rfl rfl|exact .buildC rfl rfl|exact .indexC _ rfl rfl rfl (by omega)|exact .indexC 0 rfl rfl rfl (by omega)|exact .indexC 1 rfl rfl rfl (by omega)|exact .indexC 2 rfl rfl rfl (by omega)|exact .indexArrC _ rfl rfl rfl (by omega)|exact .indexArrC 0 rfl rfl rfl (by omega)|exact .indexArrC 1 rfl rfl rfl (by omega)|exact .indexArrC 2 rfl rfl rfl (by omega)|exact .add _ rfl rfl (wrap_i64 (by omega))|exact .sub _ rfl rfl (wrap_i64 (by omega))|exact .rem _ rfl rfl (by decide) (Int.tmod_eq_emod_of_nonneg (by omega))|exact .cmpT rfl rfl rfl (by unfold cmpP;omega)|exact .cmpF rfl rfl rfl (by unfold cmpP;omega)|fail)|fail)
  refine W.st rfl rfl (St.callC rfl hr3) (fun v1 w1 h1 => ?_)
  obtain ⟨vr, rfl, hS1, k1⟩ := h1
  (repeat first|refine .seq ?_|refine .region ?_|refine .block ?_|refine .skip ?_|refine .ret ?_|refine .exit ?_|refine .yes rfl ?_|refine .no rfl ?_|refine .nil ?_|refine .go ?_|refine .thenExit ?_|refine .thenRet ?_|refine .inExit ?_|refine .outExit rfl ?_|refine .inNormal ?_|refine .inRet ?_|refine .off rfl rfl ?_|refine .offU rfl rfl rfl ?_|(apply W.y rfl rfl;first|exact .move rfl|exact .assign rfl|exact .fieldC rfl|exact .loadW rfl (by (first|apply Ld.oneC|apply Ld.two|apply Ld.three|apply Ld.four|apply Ld.five);repeat(first|assumption|exact Row.cell (by assumption) (by first|rfl|assumption)))|exact .nilCheck rfl|exact .lenC rfl|exact .lenStrC rfl|exact .extract rfl rfl|exact .not rfl|exact .pickT rfl rfl|exact .pickF rfl rfl|exact .buildC rfl rfl|exact .indexC _ rfl rfl rfl (by omega)|exact .indexC 0 rfl rfl rfl (by omega)|exact .indexC 1 rfl rfl rfl (by omega)|exact .indexC 2 rfl rfl rfl (by omega)|exact .indexArrC _ rfl rfl rfl (by omega)|exact .indexArrC 0 rfl rfl rfl (by omega)|exact .indexArrC 1 rfl rfl rfl (by omega)|exact .indexArrC 2 rfl rfl rfl (by omega)|exact .add _ rfl rfl (wrap_i64 (by omega))|exact .sub _ rfl rfl (wrap_i64 (by omega))|exact .rem _ rfl rfl (by decide) (Int.tmod_eq_emod_of_nonneg (by omega))|exact .cmpT rfl rfl rfl (by unfold cmpP;omega)|exact .cmpF rfl rfl rfl (by unfold cmpP;omega)|fail)|fail)
  refine W.st rfl rfl St.allocC (fun v2 w2 h2 => ?_)
  obtain ⟨b7, rfl, hN2⟩ := h2
  have a2 := hN2.at_
  have s1 := k1.size
  have s2 := hN2.size
  (repeat first|refine .seq ?_|refine .region ?_|refine .block ?_|refine .skip ?_|refine .ret ?_|refine .exit ?_|refine .yes rfl ?_|refine .no rfl ?_|refine .nil ?_|refine .go ?_|refine .thenExit ?_|refine .thenRet ?_|refine .inExit ?_|refine .outExit rfl ?_|refine .inNormal ?_|refine .inRet ?_|refine .off rfl rfl ?_|refine .offU rfl rfl rfl ?_|(apply W.y rfl rfl;first|exact .move rfl|exact .assign rfl|exact .fieldC rfl|exact .loadW rfl (by (first|apply Ld.oneC|apply Ld.two|apply Ld.three|apply Ld.four|apply Ld.five);repeat(first|assumption|exact Row.cell (by assumption) (by first|rfl|assumption)))|exact .nilCheck rfl|exact .lenC rfl|exact .lenStrC rfl|exact .extract rfl rfl|exact .not rfl|exact .pickT rfl rfl|exact .pickF rfl rfl|exact .buildC rfl rfl|exact .indexC _ rfl rfl rfl (by omega)|exact .indexC 0 rfl rfl rfl (by omega)|exact .indexC 1 rfl rfl rfl (by omega)|exact .indexC 2 rfl rfl rfl (by omega)|exact .indexArrC _ rfl rfl rfl (by omega)|exact .indexArrC 0 rfl rfl rfl (by omega)|exact .indexArrC 1 rfl rfl rfl (by omega)|exact .indexArrC 2 rfl rfl rfl (by omega)|exact .add _ rfl rfl (wrap_i64 (by omega))|exact .sub _ rfl rfl (wrap_i64 (by omega))|exact .rem _ rfl rfl (by decide) (Int.tmod_eq_emod_of_nonneg (by omega))|exact .cmpT rfl rfl rfl (by unfold cmpP;omega)|exact .cmpF rfl rfl rfl (by unfold cmpP;omega)|fail)|fail)
  refine W.st0 rfl (St.storeC rfl rfl rfl hN2.row (by simp [Value.cells]) (one3 rfl rfl rfl)) (fun v3 w3 h3 => ?_)
  have r73 : Row w3 b7 45 [.int .i64 0, .int .i64 pe.1, .int .i64 pe.2] := h3.row
  have s3 := h3.size
  have k03 : Keep Non w w3 := (k1.then hN2.keep).put h3 (by omega)
  have q1 := r73.cell (j := 1) rfl
  have q2 := r73.cell (j := 2) rfl
  cases ok with
  | false =>
    rw [if_pos rfl] at hsp
    rw [hsp]
    (repeat first|refine .seq ?_|refine .region ?_|refine .block ?_|refine .skip ?_|refine .ret ?_|refine .exit ?_|refine .yes rfl ?_|refine .no rfl ?_|refine .nil ?_|refine .go ?_|refine .thenExit ?_|refine .thenRet ?_|refine .inExit ?_|refine .outExit rfl ?_|refine .inNormal ?_|refine .inRet ?_|refine .off rfl rfl ?_|refine .offU rfl rfl rfl ?_|(apply W.y rfl rfl;first|exact .move rfl|exact .assign rfl|exact .fieldC rfl|exact .loadW rfl (by (first|apply Ld.oneC|apply Ld.two|apply Ld.three|apply Ld.four|apply Ld.five);repeat(first|assumption|exact Row.cell (by assumption) (by first|rfl|assumption)))|exact .nilCheck rfl|exact .lenC rfl|exact .lenStrC rfl|exact .extract rfl rfl|exact .not rfl|exact .pickT rfl rfl|exact .pickF rfl rfl|exact .buildC rfl rfl|exact .indexC _ rfl rfl rfl (by omega)|exact .indexC 0 rfl rfl rfl (by omega)|exact .indexC 1 rfl rfl rfl (by omega)|exact .indexC 2 rfl rfl rfl (by omega)|exact .indexArrC _ rfl rfl rfl (by omega)|exact .indexArrC 0 rfl rfl rfl (by omega)|exact .indexArrC 1 rfl rfl rfl (by omega)|exact .indexArrC 2 rfl rfl rfl (by omega)|exact .add _ rfl rfl (wrap_i64 (by omega))|exact .sub _ rfl rfl (wrap_i64 (by omega))|exact .rem _ rfl rfl (by decide) (Int.tmod_eq_emod_of_nonneg (by omega))|exact .cmpT rfl rfl rfl (by unfold cmpP;omega)|exact .cmpF rfl rfl rfl (by unfold cmpP;omega)|fail)|fail)
    refine C.draw 8 (fun wq => Keep Non w3 wq) [] mixed rfl (fun w4 kw4 ew4 => ?_)
    ((refine .take 0 rfl (by kernel_rfl) rfl rfl (.fieldC rfl) ?_); (refine .read 1 rfl (by kernel_rfl) rfl rfl (by assumption) (.load rfl (fun w hw => (by (first|apply Ld.oneC|apply Ld.two|apply Ld.three|apply Ld.four|apply Ld.five);repeat(apply Keep.cell hw;(first|assumption|exact Row.cell (by assumption) (by first|rfl|assumption));first|exact non_not _|assumption|(intro e;omega)|(simp;omega))))) ?_); (refine .take 2 rfl (by kernel_rfl) rfl rfl (.fieldC rfl) ?_); (refine .read 3 rfl (by kernel_rfl) rfl rfl (by assumption) (.load rfl (fun w hw => (by (first|apply Ld.oneC|apply Ld.two|apply Ld.three|apply Ld.four|apply Ld.five);repeat(apply Keep.cell hw;(first|assumption|exact Row.cell (by assumption) (by first|rfl|assumption));first|exact non_not _|assumption|(intro e;omega)|(simp;omega))))) ?_); (refine .take 4 rfl (by kernel_rfl) rfl rfl (.assign rfl) ?_); (refine .take 5 rfl (by kernel_rfl) rfl rfl (.assign rfl) ?_); (refine .take 6 rfl (by kernel_rfl) rfl rfl (.assign rfl) ?_); (refine .take 7 rfl (by kernel_rfl) rfl rfl (.assign rfl) ?_))
    refine D.fin (by kernel_rfl) ?_
    (repeat first|refine .seq ?_|refine .region ?_|refine .block ?_|refine .skip ?_|refine .ret ?_|refine .exit ?_|refine .yes rfl ?_|refine .no rfl ?_|refine .nil ?_|refine .go ?_|refine .thenExit ?_|refine .thenRet ?_|refine .inExit ?_|refine .outExit rfl ?_|refine .inNormal ?_|refine .inRet ?_|refine .off rfl rfl ?_|refine .offU rfl rfl rfl ?_|(apply W.y rfl rfl;first|exact .move rfl|exact .assign rfl|exact .fieldC rfl|exact .loadW rfl (by (first|apply Ld.oneC|apply Ld.two|apply Ld.three|apply Ld.four|apply Ld.five);repeat(first|assumption|exact Row.cell (by assumption) (by first|rfl|assumption)))|exact .nilCheck rfl|exact .lenC rfl|exact .lenStrC rfl|exact .extract rfl rfl|exact .not rfl|exact .pickT rfl rfl|exact .pickF rfl rfl|exact .buildC rfl rfl|exact .indexC _ rfl rfl rfl (by omega)|exact .indexC 0 rfl rfl rfl (by omega)|exact .indexC 1 rfl rfl rfl (by omega)|exact .indexC 2 rfl rfl rfl (by omega)|exact .indexArrC _ rfl rfl rfl (by omega)|exact .indexArrC 0 rfl rfl rfl (by omega)|exact .indexArrC 1 rfl rfl rfl (by omega)|exact .indexArrC 2 rfl rfl rfl (by omega)|exact .add _ rfl rfl (wrap_i64 (by omega))|exact .sub _ rfl rfl (wrap_i64 (by omega))|exact .rem _ rfl rfl (by decide) (Int.tmod_eq_emod_of_nonneg (by omega))|exact .cmpT rfl rfl rfl (by unfold cmpP;omega)|exact .cmpF rfl rfl rfl (by unfold cmpP;omega)|fail)|fail)
    exact E.ret4 rfl rfl rfl rfl rfl ⟨_, rfl, Sl.nil, k03.then kw4⟩
  | true =>
    rw [if_neg (by decide)] at hsp
    have hS3 : SRunes (fun k => k < w3.heap.size) w3 vr (placed (1, 1) rs) := by
      have h := (hS1.inside.keep hN2.keep (fun _ _ => non_not _)).keep h3.keep (fun k hk e => by have e' : k = b7 := e; omega)
      exact h.inside
    obtain ⟨A, c, rfl, _⟩ := hS3.at
    rw [placed_length] at hS3 ⊢
    clear hS1 hN2 h3 r73 q1 q2 hr3
    (repeat first|refine .seq ?_|refine .region ?_|refine .block ?_|refine .skip ?_|refine .ret ?_|refine .exit ?_|refine .yes rfl ?_|refine .no rfl ?_|refine .nil ?_|refine .go ?_|refine .thenExit ?_|refine .thenRet ?_|refine .inExit ?_|refine .outExit rfl ?_|refine .inNormal ?_|refine .inRet ?_|refine .off rfl rfl ?_|refine .offU rfl rfl rfl ?_|(apply W.y rfl rfl;first|exact .move rfl|exact .assign rfl|exact .fieldC rfl|exact .loadW rfl (by (first|apply Ld.oneC|apply Ld.two|apply Ld.three|apply Ld.four|apply Ld.five);repeat(first|assumption|exact Row.cell (by assumption) (by first|rfl|assumption)))|exact .nilCheck rfl|exact .lenC rfl|exact .lenStrC rfl|exact .extract rfl rfl|exact .not rfl|exact .pickT rfl rfl|exact .pickF rfl rfl|exact .buildC rfl rfl|exact .indexC _ rfl rfl rfl (by omega)|exact .indexC 0 rfl rfl rfl (by omega)|exact .indexC 1 rfl rfl rfl (by omega)|exact .indexC 2 rfl rfl rfl (by omega)|exact .indexArrC _ rfl rfl rfl (by omega)|exact .indexArrC 0 rfl rfl rfl (by omega)|exact .indexArrC 1 rfl rfl rfl (by omega)|exact .indexArrC 2 rfl rfl rfl (by omega)|exact .add _ rfl rfl (wrap_i64 (by omega))|exact .sub _ rfl rfl (wrap_i64 (by omega))|exact .rem _ rfl rfl (by decide) (Int.tmod_eq_emod_of_nonneg (by omega))|exact .cmpT rfl rfl rfl (by unfold cmpP;omega)|exact .cmpF rfl rfl rfl (by unfold cmpP;omega)|fail)|fail)
    refine C.loop (fun m L w' => ∃ (i : Nat) (vo : Value) (out : List WV), L = [(6, .slice A rs.length c), (9, vo), (10, .int .i64 i)] ∧ m = rs.length + 1 - i ∧ IV rs i out ∧ w'.ownsRow w3.heap.size 59 4 vo out.length (wflat out) ∧ Keep (fun k => w3.heap.size ≤ k) w3 w') (rs.length + 1) _
      ⟨0, _, [], rfl, by omega, IV.init rs, ⟨rfl, .inl ⟨rfl, rfl⟩⟩, Keep.refl _ _⟩ ⟨rfl, rfl, rfl, trivial⟩ ?_
    rintro m L w4 ⟨i, vo, out, rfl, rfl, hI, own, k4⟩
    have s4 := k4.size
    have k04 : Keep Non w w4 := k03.far k4 (fun i hi => by omega)
    by_cases hlt : i < rs.length
    · have hx := List.getElem?_eq_getElem hlt
      have hS4 := hS3.keep k4 (fun k hk => by omega)
      obtain ⟨_, _, q, he⟩ := hS4.at
      simp only [Value.slice.injEq] at q
      obtain ⟨rfl, _, rfl⟩ := q
      obtain ⟨b, o, rfl, hF, q0, _, _⟩ := he i _ (placed_get rs (1, 1) i _ hx)
      have hround : C Tryd.prog 169 (pc [1,1,1,1,1,0,1,0,0,1,0,0,1,0] Tryd.f10) (Post 169 (RoundPost w3.heap.size w4 rs (some ⟨b, o, none⟩) c i (mof rs i).at_)) [(6, .slice (some ⟨b, o, none⟩) rs.length c), (9, vo), (10, .int .i64 i), (11, .int .i64 rs[i])] w4 := by
        cases hL : isL rs[i]
        · exact ref_other _ w4 _ rs _ c i _ vo out _ hS4 hI hx hL (by omega) own (by omega) rfl
        · exact ref_name _ w4 _ rs _ c i _ vo out _ hS4 hI hx hL (by omega) own (by omega) rfl
      simp only at q0
      clear he hS4
      have hpos := at_pos rs i
      generalize rs[i] = x at *
      (repeat first|refine C.use hround ⟨rfl, rfl, rfl, rfl, trivial⟩ ?_|refine .seq ?_|refine .region ?_|refine .block ?_|refine .skip ?_|refine .ret ?_|refine .exit ?_|refine .yes rfl ?_|refine .no rfl ?_|refine .nil ?_|refine .go ?_|refine .thenExit ?_|refine .thenRet ?_|refine .inExit ?_|refine .outExit rfl ?_|refine .inNormal ?_|refine .inRet ?_|refine .off rfl rfl ?_|refine .offU rfl rfl rfl ?_|(apply W.y rfl rfl;first|exact .move rfl|exact .assign rfl|exact .fieldC rfl|exact .loadW rfl (by (first|apply Ld.oneC|apply Ld.two|apply Ld.three|apply Ld.four|apply Ld.five);repeat(first|assumption|exact Row.cell (by assumption) (by first|rfl|assumption)))|exact .nilCheck rfl|exact .lenC rfl|exact .lenStrC rfl|exact .extract rfl rfl|exact .not rfl|exact .pickT rfl rfl|exact .pickF rfl rfl|exact .buildC rfl rfl|exact .indexC _ rfl rfl rfl (by omega)|exact .indexC 0 rfl rfl rfl (by omega)|exact .indexC 1 rfl rfl rfl (by omega)|exact .indexC 2 rfl rfl rfl (by omega)|exact .indexArrC _ rfl rfl rfl (by omega)|exact .indexArrC 0 rfl rfl rfl (by omega)|exact .indexArrC 1 rfl rfl rfl (by omega)|exact .indexArrC 2 rfl rfl rfl (by omega)|exact .add _ rfl rfl (wrap_i64 (by omega))|exact .sub _ rfl rfl (wrap_i64 (by omega))|exact .rem _ rfl rfl (by decide) (Int.tmod_eq_emod_of_nonneg (by omega))|exact .cmpT rfl rfl rfl (by unfold cmpP;omega)|exact .cmpF rfl rfl rfl (by unfold cmpP;omega)|fail)|fail)
      rintro e L' w5 ⟨k5, h | h⟩
      · obtain ⟨rfl, vo', j, out', rfl, hij, hI', own'⟩ := h
        have hj := hI'.hi
        (repeat first|refine .seq ?_|refine .region ?_|refine .block ?_|refine .skip ?_|refine .ret ?_|refine .exit ?_|refine .yes rfl ?_|refine .no rfl ?_|refine .nil ?_|refine .go ?_|refine .thenExit ?_|refine .thenRet ?_|refine .inExit ?_|refine .outExit rfl ?_|refine .inNormal ?_|refine .inRet ?_|refine .off rfl rfl ?_|refine .offU rfl rfl rfl ?_|(apply W.y rfl rfl;first|exact .move rfl|exact .assign rfl|exact .fieldC rfl|exact .loadW rfl (by (first|apply Ld.oneC|apply Ld.two|apply Ld.three|apply Ld.four|apply Ld.five);repeat(first|assumption|exact Row.cell (by assumption) (by first|rfl|assumption)))|exact .nilCheck rfl|exact .lenC rfl|exact .lenStrC rfl|exact .extract rfl rfl|exact .not rfl|exact .pickT rfl rfl|exact .pickF rfl rfl|exact .buildC rfl rfl|exact .indexC _ rfl rfl rfl (by omega)|exact .indexC 0 rfl rfl rfl (by omega)|exact .indexC 1 rfl rfl rfl (by omega)|exact .indexC 2 rfl rfl rfl (by omega)|exact .indexArrC _ rfl rfl rfl (by omega)|exact .indexArrC 0 rfl rfl rfl (by omega)|exact .indexArrC 1 rfl rfl rfl (by omega)|exact .indexArrC 2 rfl rfl rfl (by omega)|exact .add _ rfl rfl (wrap_i64 (by omega))|exact .sub _ rfl rfl (wrap_i64 (by omega))|exact .rem _ rfl rfl (by decide) (Int.tmod_eq_emod_of_nonneg (by omega))|exact .cmpT rfl rfl rfl (by unfold cmpP;omega)|exact .cmpF rfl rfl rfl (by unfold cmpP;omega)|fail)|fail)
        exact E.again _ _ (by omega) ⟨j + 1, vo', out', rfl, rfl, hI', own', k4.then k5⟩ ⟨rfl, rfl, some_int (by omega), trivial⟩
      · obtain ⟨rfl, rfl, hbad⟩ := h
        rw [hbad, if_pos (by omega)] at hsp
        rw [hsp]
        (repeat first|refine .seq ?_|refine .region ?_|refine .block ?_|refine .skip ?_|refine .ret ?_|refine .exit ?_|refine .yes rfl ?_|refine .no rfl ?_|refine .nil ?_|refine .go ?_|refine .thenExit ?_|refine .thenRet ?_|refine .inExit ?_|refine .outExit rfl ?_|refine .inNormal ?_|refine .inRet ?_|refine .off rfl rfl ?_|refine .offU rfl rfl rfl ?_|(apply W.y rfl rfl;first|exact .move rfl|exact .assign rfl|exact .fieldC rfl|exact .loadW rfl (by (first|apply Ld.oneC|apply Ld.two|apply Ld.three|apply Ld.four|apply Ld.five);repeat(first|assumption|exact Row.cell (by assumption) (by first|rfl|assumption)))|exact .nilCheck rfl|exact .lenC rfl|exact .lenStrC rfl|exact .extract rfl rfl|exact .not rfl|exact .pickT rfl rfl|exact .pickF rfl rfl|exact .buildC rfl rfl|exact .indexC _ rfl rfl rfl (by omega)|exact .indexC 0 rfl rfl rfl (by omega)|exact .indexC 1 rfl rfl rfl (by omega)|exact .indexC 2 rfl rfl rfl (by omega)|exact .indexArrC _ rfl rfl rfl (by omega)|exact .indexArrC 0 rfl rfl rfl (by omega)|exact .indexArrC 1 rfl rfl rfl (by omega)|exact .indexArrC 2 rfl rfl rfl (by omega)|exact .add _ rfl rfl (wrap_i64 (by omega))|exact .sub _ rfl rfl (wrap_i64 (by omega))|exact .rem _ rfl rfl (by decide) (Int.tmod_eq_emod_of_nonneg (by omega))|exact .cmpT rfl rfl rfl (by unfold cmpP;omega)|exact .cmpF rfl rfl rfl (by unfold cmpP;omega)|fail)|fail)
        exact E.ret4 rfl rfl rfl rfl rfl ⟨_, rfl, Sl.nil, k04.far k5 (fun i hi => by omega)⟩
    · have hall := mof_all (rs := rs) (i := i) (by omega)
      have hb := hI.hb
      have ho := hI.ho
      have hol := hI.out_le
      rw [hall] at hb ho
      rw [hb, if_neg (by omega), ho] at hsp
      rw [hsp]
      (repeat first|refine .seq ?_|refine .region ?_|refine .block ?_|refine .skip ?_|refine .ret ?_|refine .exit ?_|refine .yes rfl ?_|refine .no rfl ?_|refine .nil ?_|refine .go ?_|refine .thenExit ?_|refine .thenRet ?_|refine .inExit ?_|refine .outExit rfl ?_|refine .inNormal ?_|refine .inRet ?_|refine .off rfl rfl ?_|refine .offU rfl rfl rfl ?_|(apply W.y rfl rfl;first|exact .move rfl|exact .assign rfl|exact .fieldC rfl|exact .loadW rfl (by (first|apply Ld.oneC|apply Ld.two|apply Ld.three|apply Ld.four|apply Ld.five);repeat(first|assumption|exact Row.cell (by assumption) (by first|rfl|assumption)))|exact .nilCheck rfl|exact .lenC rfl|exact .lenStrC rfl|exact .extract rfl rfl|exact .not rfl|exact .pickT rfl rfl|exact .pickF rfl rfl|exact .buildC rfl rfl|exact .indexC _ rfl rfl rfl (by omega)|exact .indexC 0 rfl rfl rfl (by omega)|exact .indexC 1 rfl rfl rfl (by omega)|exact .indexC 2 rfl rfl rfl (by omega)|exact .indexArrC _ rfl rfl rfl (by omega)|exact .indexArrC 0 rfl rfl rfl (by omega)|exact .indexArrC 1 rfl rfl rfl (by omega)|exact .indexArrC 2 rfl rfl rfl (by omega)|exact .add _ rfl rfl (wrap_i64 (by omega))|exact .sub _ rfl rfl (wrap_i64 (by omega))|exact .rem _ rfl rfl (by decide) (Int.tmod_eq_emod_of_nonneg (by omega))|exact .cmpT rfl rfl rfl (by unfold cmpP;omega)|exact .cmpF rfl rfl rfl (by unfold cmpP;omega)|fail)|fail)
      exact E.ret4 rfl rfl rfl rfl rfl ⟨_, rfl, Sl.of_own own rfl (by omega) (fun b hb => by have := own.lt b hb; omega) (fun i x hx => wflat_get _ i x hx), k04⟩
end Go.Proofs.YtmlhjahbbcgpaaaDoor
