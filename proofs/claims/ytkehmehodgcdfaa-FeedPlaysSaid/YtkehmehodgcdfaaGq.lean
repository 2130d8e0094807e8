/- FeedPlays: are all kept deltas few? -/
import Derived.Test.YtkehmehodgcdfaaGp
namespace Go.Proofs.Ytkehmehodgcdfaa
open Vb Go.RowKit

set_option maxHeartbeats 3200000 in
theorem few_loop (F : Nat → Prop) (vl v vs : Value) (es : List (Int × Delta)) (w : World) (h : Entries F w v es) (hn9 : es.length ≤ 30) :
    C Try.prog 205 (pc [1,1,0,1,0] Try.f5) (Post 205 (fun e L' w' => Keep Non w w' ∧ ((e = .ret ∧ L' = [(6, .bool true)]) ∨ (e = .exit 0 ∧ L' = [(0, vl), (1, v), (2, vs)] ∧ ∀ x ∈ es, x.2.1.length + x.2.2.length ≤ 50)))) [(0, vl), (1, v), (2, vs), (33, v), (34, .int .i64 es.length), (35, .int .i64 0)] w := by
  obtain ⟨A, c, rfl, hc, hn, hb, he⟩ := h
  refine C.loop (fun m L w' => ∃ (i : Nat), L = [(0, vl), (1, .slice A es.length c), (2, vs), (33, .slice A es.length c), (34, .int .i64 es.length), (35, .int .i64 i)] ∧ m = es.length - i ∧ i ≤ es.length ∧ (∀ (j : Nat) x, j < i → es[j]? = some x → x.2.1.length + x.2.2.length ≤ 50) ∧ Keep Non w w') es.length _
    ⟨0, rfl, rfl, by omega, fun j x hj => absurd hj (Nat.not_lt_zero _), Keep.refl _ _⟩ ⟨rfl, rfl, rfl, rfl, rfl, rfl, trivial⟩ ?_
  rintro m L w1 ⟨i, rfl, rfl, hi, hfew, k1⟩
  by_cases hlt : i < es.length
  · have hei := List.getElem?_eq_getElem hlt
    obtain ⟨b, o, cs1, rfl, hFb, hl1, hc1, va, vd, rfl, hd⟩ := he i _ hei
    generalize hee : es[i] = e at *
    have q0 : w1.cell? ⟨b, o + i * 3, none⟩ = some (.int .i64 e.1) := k1.cell (hc1 0 _ rfl) (non_not _)
    have q1 : w1.cell? ⟨b, o + i * 3 + 1, none⟩ = some va := k1.cell (hc1 1 _ rfl) (non_not _)
    have q2 : w1.cell? ⟨b, o + i * 3 + 2, none⟩ = some vd := k1.cell (hc1 2 _ rfl) (non_not _)
    have hd1 := hd.keep k1 (fun _ _ => non_not _)
    (repeat first|refine .seq ?_|refine .region ?_|refine .block ?_|refine .skip ?_|refine .ret ?_|refine .exit ?_|refine .yes rfl ?_|refine .no rfl ?_|refine .nil ?_|refine .go ?_|refine .thenExit ?_|refine .thenRet ?_|refine .inExit ?_|refine .outExit rfl ?_|refine .inNormal ?_|refine .inRet ?_|refine .off rfl rfl ?_|refine .offU rfl rfl rfl ?_|(apply W.y rfl rfl;first|exact .move rfl|exact .assign rfl|exact .fieldC rfl|exact .loadW rfl (by (first|apply Ld.oneC|apply Ld.two|apply Ld.three|apply Ld.four|apply Ld.five);repeat(first|assumption|exact Row.cell (by assumption) (by first|rfl|assumption)))|exact .nilCheck rfl|exact .lenC rfl|exact .lenStrC rfl|exact .extract rfl rfl|exact .not rfl|exact .pickT rfl rfl|exact .pickF rfl rfl|exact .buildC rfl rfl|exact .indexC _ rfl rfl rfl (by omega)|exact .indexC 0 rfl rfl rfl (by omega)|exact .indexC 1 rfl rfl rfl (by omega)|exact .indexC 2 rfl rfl rfl (by omega)|exact .indexArrC _ rfl rfl rfl (by omega)|exact .indexArrC 0 rfl rfl rfl (by omega)|exact .indexArrC 1 rfl rfl rfl (by omega)|exact .indexArrC 2 rfl rfl rfl (by omega)|exact .add _ rfl rfl (wrap_i64 (by omega))|exact .sub _ rfl rfl (wrap_i64 (by omega))|exact .rem _ rfl rfl (by decide) (Int.tmod_eq_emod_of_nonneg (by omega))|exact .cmpT rfl rfl rfl (by unfold cmpP;omega)|exact .cmpF rfl rfl rfl (by unfold cmpP;omega)|fail)|fail)
    refine W.st rfl rfl St.allocC (fun v2 w2 h2 => ?_)
    obtain ⟨b5, rfl, hN2⟩ := h2
    have a2 := hN2.at_
    refine W.st0 rfl (St.storeC rfl rfl rfl hN2.row (by simp [Value.cells]) (one3 rfl (slice_one hd1.1) (slice_one hd1.2))) (fun v3 w3 h3 => ?_)
    have r3 : Row w3 b5 39 [.int .i64 e.1, va, vd] := h3.row
    have k13 : Keep Non w1 w3 := hN2.keep.put h3 (by omega)
    have p1 := r3.cell (j := 1) rfl
    have p2 := r3.cell (j := 2) rfl
    (repeat first|refine .seq ?_|refine .region ?_|refine .block ?_|refine .skip ?_|refine .ret ?_|refine .exit ?_|refine .yes rfl ?_|refine .no rfl ?_|refine .nil ?_|refine .go ?_|refine .thenExit ?_|refine .thenRet ?_|refine .inExit ?_|refine .outExit rfl ?_|refine .inNormal ?_|refine .inRet ?_|refine .off rfl rfl ?_|refine .offU rfl rfl rfl ?_|(apply W.y rfl rfl;first|exact .move rfl|exact .assign rfl|exact .fieldC rfl|exact .loadW rfl (by (first|apply Ld.oneC|apply Ld.two|apply Ld.three|apply Ld.four|apply Ld.five);repeat(first|assumption|exact Row.cell (by assumption) (by first|rfl|assumption)))|exact .nilCheck rfl|exact .lenC rfl|exact .lenStrC rfl|exact .extract rfl rfl|exact .not rfl|exact .pickT rfl rfl|exact .pickF rfl rfl|exact .buildC rfl rfl|exact .indexC _ rfl rfl rfl (by omega)|exact .indexC 0 rfl rfl rfl (by omega)|exact .indexC 1 rfl rfl rfl (by omega)|exact .indexC 2 rfl rfl rfl (by omega)|exact .indexArrC _ rfl rfl rfl (by omega)|exact .indexArrC 0 rfl rfl rfl (by omega)|exact .indexArrC 1 rfl rfl rfl (by omega)|exact .indexArrC 2 rfl rfl rfl (by omega)|exact .add _ rfl rfl (wrap_i64 (by omega))|exact .sub _ rfl rfl (wrap_i64 (by omega))|exact .rem _ rfl rfl (by decide) (Int.tmod_eq_emod_of_nonneg (by omega))|exact .cmpT rfl rfl rfl (by unfold cmpP;omega)|exact .cmpF rfl rfl rfl (by unfold cmpP;omega)|fail)|fail)
    refine W.st rfl rfl (St.callC rfl (few_spec F va vd e.2 w3 (hd1.keep k13 (fun _ _ => non_not _)))) (fun v4 w4 h4 => ?_)
    obtain ⟨rfl, k4⟩ := h4
    by_cases hf : e.2.1.length + e.2.2.length ≤ 50
    · rw [decide_eq_true hf]
      (repeat first|refine .seq ?_|refine .region ?_|refine .block ?_|refine .skip ?_|refine .ret ?_|refine .exit ?_|refine .yes rfl ?_|refine .no rfl ?_|refine .nil ?_|refine .go ?_|refine .thenExit ?_|refine .thenRet ?_|refine .inExit ?_|refine .outExit rfl ?_|refine .inNormal ?_|refine .inRet ?_|refine .off rfl rfl ?_|refine .offU rfl rfl rfl ?_|(apply W.y rfl rfl;first|exact .move rfl|exact .assign rfl|exact .fieldC rfl|exact .loadW rfl (by (first|apply Ld.oneC|apply Ld.two|apply Ld.three|apply Ld.four|apply Ld.five);repeat(first|assumption|exact Row.cell (by assumption) (by first|rfl|assumption)))|exact .nilCheck rfl|exact .lenC rfl|exact .lenStrC rfl|exact .extract rfl rfl|exact .not rfl|exact .pickT rfl rfl|exact .pickF rfl rfl|exact .buildC rfl rfl|exact .indexC _ rfl rfl rfl (by omega)|exact .indexC 0 rfl rfl rfl (by omega)|exact .indexC 1 rfl rfl rfl (by omega)|exact .indexC 2 rfl rfl rfl (by omega)|exact .indexArrC _ rfl rfl rfl (by omega)|exact .indexArrC 0 rfl rfl rfl (by omega)|exact .indexArrC 1 rfl rfl rfl (by omega)|exact .indexArrC 2 rfl rfl rfl (by omega)|exact .add _ rfl rfl (wrap_i64 (by omega))|exact .sub _ rfl rfl (wrap_i64 (by omega))|exact .rem _ rfl rfl (by decide) (Int.tmod_eq_emod_of_nonneg (by omega))|exact .cmpT rfl rfl rfl (by unfold cmpP;omega)|exact .cmpF rfl rfl rfl (by unfold cmpP;omega)|fail)|fail)
      refine E.again _ _ (by omega) ⟨i + 1, rfl, rfl, by omega, fun j x hj hx => ?_, (k1.then k13).then k4⟩ ⟨rfl, rfl, rfl, rfl, rfl, some_int (by omega), trivial⟩
      by_cases hji : j = i
      · subst hji
        rw [hei] at hx
        simp only [Option.some.injEq] at hx
        subst hx
        exact hf
      · exact hfew j x (by omega) hx
    · rw [decide_eq_false hf]
      (repeat first|refine .seq ?_|refine .region ?_|refine .block ?_|refine .skip ?_|refine .ret ?_|refine .exit ?_|refine .yes rfl ?_|refine .no rfl ?_|refine .nil ?_|refine .go ?_|refine .thenExit ?_|refine .thenRet ?_|refine .inExit ?_|refine .outExit rfl ?_|refine .inNormal ?_|refine .inRet ?_|refine .off rfl rfl ?_|refine .offU rfl rfl rfl ?_|(apply W.y rfl rfl;first|exact .move rfl|exact .assign rfl|exact .fieldC rfl|exact .loadW rfl (by (first|apply Ld.oneC|apply Ld.two|apply Ld.three|apply Ld.four|apply Ld.five);repeat(first|assumption|exact Row.cell (by assumption) (by first|rfl|assumption)))|exact .nilCheck rfl|exact .lenC rfl|exact .lenStrC rfl|exact .extract rfl rfl|exact .not rfl|exact .pickT rfl rfl|exact .pickF rfl rfl|exact .buildC rfl rfl|exact .indexC _ rfl rfl rfl (by omega)|exact .indexC 0 rfl rfl rfl (by omega)|exact .indexC 1 rfl rfl rfl (by omega)|exact .indexC 2 rfl rfl rfl (by omega)|exact .indexArrC _ rfl rfl rfl (by omega)|exact .indexArrC 0 rfl rfl rfl (by omega)|exact .indexArrC 1 rfl rfl rfl (by omega)|exact .indexArrC 2 rfl rfl rfl (by omega)|exact .add _ rfl rfl (wrap_i64 (by omega))|exact .sub _ rfl rfl (wrap_i64 (by omega))|exact .rem _ rfl rfl (by decide) (Int.tmod_eq_emod_of_nonneg (by omega))|exact .cmpT rfl rfl rfl (by unfold cmpP;omega)|exact .cmpF rfl rfl rfl (by unfold cmpP;omega)|fail)|fail)
      exact E.endR _ ⟨(k1.then k13).then k4, .inl ⟨rfl, rfl⟩⟩ ⟨rfl, trivial⟩
  · (repeat first|refine .seq ?_|refine .region ?_|refine .block ?_|refine .skip ?_|refine .ret ?_|refine .exit ?_|refine .yes rfl ?_|refine .no rfl ?_|refine .nil ?_|refine .go ?_|refine .thenExit ?_|refine .thenRet ?_|refine .inExit ?_|refine .outExit rfl ?_|refine .inNormal ?_|refine .inRet ?_|refine .off rfl rfl ?_|refine .offU rfl rfl rfl ?_|(apply W.y rfl rfl;first|exact .move rfl|exact .assign rfl|exact .fieldC rfl|exact .loadW rfl (by (first|apply Ld.oneC|apply Ld.two|apply Ld.three|apply Ld.four|apply Ld.five);repeat(first|assumption|exact Row.cell (by assumption) (by first|rfl|assumption)))|exact .nilCheck rfl|exact .lenC rfl|exact .lenStrC rfl|exact .extract rfl rfl|exact .not rfl|exact .pickT rfl rfl|exact .pickF rfl rfl|exact .buildC rfl rfl|exact .indexC _ rfl rfl rfl (by omega)|exact .indexC 0 rfl rfl rfl (by omega)|exact .indexC 1 rfl rfl rfl (by omega)|exact .indexC 2 rfl rfl rfl (by omega)|exact .indexArrC _ rfl rfl rfl (by omega)|exact .indexArrC 0 rfl rfl rfl (by omega)|exact .indexArrC 1 rfl rfl rfl (by omega)|exact .indexArrC 2 rfl rfl rfl (by omega)|exact .add _ rfl rfl (wrap_i64 (by omega))|exact .sub _ rfl rfl (wrap_i64 (by omega))|exact .rem _ rfl rfl (by decide) (Int.tmod_eq_emod_of_nonneg (by omega))|exact .cmpT rfl rfl rfl (by unfold cmpP;omega)|exact .cmpF rfl rfl rfl (by unfold cmpP;omega)|fail)|fail)
    exact E.endX _ ⟨k1, .inr ⟨rfl, rfl, fun x hx => by
      obtain ⟨j, hj, rfl⟩ := List.mem_iff_getElem.1 hx
      exact hfew j _ (by omega) (List.getElem?_eq_getElem hj)⟩⟩ ⟨rfl, rfl, rfl, trivial⟩
end Go.Proofs.Ytkehmehodgcdfaa
