/- rhizomeref20.Add, walked. -/
import Derived.Test.YtkehmehodgcdfaaGr
namespace Go.Proofs.Ytkehmehodgcdfaa
open Vb Go.RowKit

set_option maxHeartbeats 3200000 in
theorem radd_no (F G : Nat → Prop) (last : Int) (vk va vd : Value) (es : List (Int × Delta)) (d : Delta) (w : World) (hE : Entries F w vk es) (hd : Deltas G w va vd d) (h0 : (d.1.isEmpty && d.2.isEmpty) = true) :
    Meets Try.prog 22 #[.agg #[.int .i64 last, vk], .agg #[va, vd]] w (fun r w' => r = .tuple #[.agg #[.int .i64 last, vk], .bool false] ∧ Keep Non w w') := by
  obtain ⟨A, c, rfl, _⟩ := id hE
  obtain ⟨A1, c1, e1, _⟩ := id hd.1
  obtain ⟨A2, c2, e2, _⟩ := id hd.2
  subst e1; subst e2
  refine Meets.enter Try.func22 Try.ntmps22 rfl rfl ?_
  (repeat first|refine .seq ?_|refine .region ?_|refine .block ?_|refine .skip ?_|refine .ret ?_|refine .exit ?_|refine .yes rfl ?_|refine .no rfl ?_|refine .nil ?_|refine .go ?_|refine .thenExit ?_|refine .thenRet ?_|refine .inExit ?_|refine .outExit rfl ?_|refine .inNormal ?_|refine .inRet ?_|refine .off rfl rfl ?_|refine .offU rfl rfl rfl ?_|(apply W.y rfl rfl;first|exact .move rfl|exact .assign rfl|exact .fieldC rfl|exact .loadW rfl (by (first|apply Ld.oneC|apply Ld.two|apply Ld.three|apply Ld.four|apply Ld.five);repeat(first|assumption|exact Row.cell (by assumption) (by first|rfl|assumption)))|exact .nilCheck rfl|exact .lenC rfl|exact .lenStrC rfl|exact .extract rfl rfl|exact .not rfl|exact .pickT rfl rfl|exact .pickF rfl rfl|exact .buildC rfl rfl|exact .indexC _ rfl rfl rfl (by omega)|exact .indexC 0 rfl rfl rfl (by omega)|exact .indexC 1 rfl rfl rfl (by omega)|exact .indexC 2 rfl rfl rfl (by omega)|exact .indexArrC _ rfl rfl rfl (by omega)|exact .indexArrC 0 rfl rfl rfl (by omega)|exact .indexArrC 1 rfl rfl rfl (by omega)|exact .indexArrC 2 rfl rfl rfl (by omega)|exact .add _ rfl rfl (wrap_i64 (by omega))|exact .sub _ rfl rfl (wrap_i64 (by omega))|exact .rem _ rfl rfl (by decide) (Int.tmod_eq_emod_of_nonneg (by omega))|exact .cmpT rfl rfl rfl (by unfold cmpP;omega)|exact .cmpF rfl rfl rfl (by unfold cmpP;omega)|fail)|fail)
  refine W.st rfl rfl (St.box rfl) (fun v1 w1 hv => ?_)
  obtain ⟨b2, rfl, hN1⟩ := hv
  have r1 : Row w1 b2 49 [.int .i64 last, .slice A es.length c] := hN1.row
  (repeat first|refine .seq ?_|refine .region ?_|refine .block ?_|refine .skip ?_|refine .ret ?_|refine .exit ?_|refine .yes rfl ?_|refine .no rfl ?_|refine .nil ?_|refine .go ?_|refine .thenExit ?_|refine .thenRet ?_|refine .inExit ?_|refine .outExit rfl ?_|refine .inNormal ?_|refine .inRet ?_|refine .off rfl rfl ?_|refine .offU rfl rfl rfl ?_|(apply W.y rfl rfl;first|exact .move rfl|exact .assign rfl|exact .fieldC rfl|exact .loadW rfl (by (first|apply Ld.oneC|apply Ld.two|apply Ld.three|apply Ld.four|apply Ld.five);repeat(first|assumption|exact Row.cell (by assumption) (by first|rfl|assumption)))|exact .nilCheck rfl|exact .lenC rfl|exact .lenStrC rfl|exact .extract rfl rfl|exact .not rfl|exact .pickT rfl rfl|exact .pickF rfl rfl|exact .buildC rfl rfl|exact .indexC _ rfl rfl rfl (by omega)|exact .indexC 0 rfl rfl rfl (by omega)|exact .indexC 1 rfl rfl rfl (by omega)|exact .indexC 2 rfl rfl rfl (by omega)|exact .indexArrC _ rfl rfl rfl (by omega)|exact .indexArrC 0 rfl rfl rfl (by omega)|exact .indexArrC 1 rfl rfl rfl (by omega)|exact .indexArrC 2 rfl rfl rfl (by omega)|exact .add _ rfl rfl (wrap_i64 (by omega))|exact .sub _ rfl rfl (wrap_i64 (by omega))|exact .rem _ rfl rfl (by decide) (Int.tmod_eq_emod_of_nonneg (by omega))|exact .cmpT rfl rfl rfl (by unfold cmpP;omega)|exact .cmpF rfl rfl rfl (by unfold cmpP;omega)|fail)|fail)
  refine W.st rfl rfl (St.box rfl) (fun v2 w2 hv => ?_)
  obtain ⟨b3, rfl, hN2⟩ := hv
  have r2 : Row w2 b3 32 [.slice A1 d.1.length c1, .slice A2 d.2.length c2] := hN2.row
  refine W.st rfl rfl St.allocC (fun v3 w3 hv => ?_)
  obtain ⟨b4, rfl, hN3⟩ := hv
  have k3 := (hN1.keep.then hN2.keep).then hN3.keep
  have r4 : Row w3 b4 49 [.int .i64 0, .slice none 0 0] := hN3.row
  have r2 := r2.keep hN3.keep (non_not _)
  have r1 := (r1.keep hN2.keep (non_not _)).keep hN3.keep (non_not _)
  have a1 := hN1.at_
  have a2 := hN2.at_
  have a3 := hN3.at_
  have s1 := hN1.size
  have s2 := hN2.size
  have p0 := r2.cell (j := 0) rfl
  have p1 := r2.cell (j := 1) rfl
  (repeat first|refine .seq ?_|refine .region ?_|refine .block ?_|refine .skip ?_|refine .ret ?_|refine .exit ?_|refine .yes rfl ?_|refine .no rfl ?_|refine .nil ?_|refine .go ?_|refine .thenExit ?_|refine .thenRet ?_|refine .inExit ?_|refine .outExit rfl ?_|refine .inNormal ?_|refine .inRet ?_|refine .off rfl rfl ?_|refine .offU rfl rfl rfl ?_|(apply W.y rfl rfl;first|exact .move rfl|exact .assign rfl|exact .fieldC rfl|exact .loadW rfl (by (first|apply Ld.oneC|apply Ld.two|apply Ld.three|apply Ld.four|apply Ld.five);repeat(first|assumption|exact Row.cell (by assumption) (by first|rfl|assumption)))|exact .nilCheck rfl|exact .lenC rfl|exact .lenStrC rfl|exact .extract rfl rfl|exact .not rfl|exact .pickT rfl rfl|exact .pickF rfl rfl|exact .buildC rfl rfl|exact .indexC _ rfl rfl rfl (by omega)|exact .indexC 0 rfl rfl rfl (by omega)|exact .indexC 1 rfl rfl rfl (by omega)|exact .indexC 2 rfl rfl rfl (by omega)|exact .indexArrC _ rfl rfl rfl (by omega)|exact .indexArrC 0 rfl rfl rfl (by omega)|exact .indexArrC 1 rfl rfl rfl (by omega)|exact .indexArrC 2 rfl rfl rfl (by omega)|exact .add _ rfl rfl (wrap_i64 (by omega))|exact .sub _ rfl rfl (wrap_i64 (by omega))|exact .rem _ rfl rfl (by decide) (Int.tmod_eq_emod_of_nonneg (by omega))|exact .cmpT rfl rfl rfl (by unfold cmpP;omega)|exact .cmpF rfl rfl rfl (by unfold cmpP;omega)|fail)|fail)
  refine W.st rfl rfl (St.callC rfl (rempty_spec G _ _ d w3 (hd.keep k3 (fun _ _ => non_not _)))) (fun v4 w4 h4 => ?_)
  obtain ⟨rfl, k4⟩ := h4
  rw [h0]
  have r1 := r1.keep k4 (non_not _)
  have r4 := r4.keep k4 (non_not _)
  have q0 := r1.cell (j := 0) rfl
  have q1 := r1.cell (j := 1) rfl
  (repeat first|refine .seq ?_|refine .region ?_|refine .block ?_|refine .skip ?_|refine .ret ?_|refine .exit ?_|refine .yes rfl ?_|refine .no rfl ?_|refine .nil ?_|refine .go ?_|refine .thenExit ?_|refine .thenRet ?_|refine .inExit ?_|refine .outExit rfl ?_|refine .inNormal ?_|refine .inRet ?_|refine .off rfl rfl ?_|refine .offU rfl rfl rfl ?_|(apply W.y rfl rfl;first|exact .move rfl|exact .assign rfl|exact .fieldC rfl|exact .loadW rfl (by (first|apply Ld.oneC|apply Ld.two|apply Ld.three|apply Ld.four|apply Ld.five);repeat(first|assumption|exact Row.cell (by assumption) (by first|rfl|assumption)))|exact .nilCheck rfl|exact .lenC rfl|exact .lenStrC rfl|exact .extract rfl rfl|exact .not rfl|exact .pickT rfl rfl|exact .pickF rfl rfl|exact .buildC rfl rfl|exact .indexC _ rfl rfl rfl (by omega)|exact .indexC 0 rfl rfl rfl (by omega)|exact .indexC 1 rfl rfl rfl (by omega)|exact .indexC 2 rfl rfl rfl (by omega)|exact .indexArrC _ rfl rfl rfl (by omega)|exact .indexArrC 0 rfl rfl rfl (by omega)|exact .indexArrC 1 rfl rfl rfl (by omega)|exact .indexArrC 2 rfl rfl rfl (by omega)|exact .add _ rfl rfl (wrap_i64 (by omega))|exact .sub _ rfl rfl (wrap_i64 (by omega))|exact .rem _ rfl rfl (by decide) (Int.tmod_eq_emod_of_nonneg (by omega))|exact .cmpT rfl rfl rfl (by unfold cmpP;omega)|exact .cmpF rfl rfl rfl (by unfold cmpP;omega)|fail)|fail)
  refine W.st0 rfl (St.storeC rfl rfl rfl r4 (by simp [Value.cells]) (one2 rfl rfl)) (fun v5 w5 h5 => ?_)
  have r5 : Row w5 b4 49 [.int .i64 last, .slice A es.length c] := h5.row
  (repeat first|refine .seq ?_|refine .region ?_|refine .block ?_|refine .skip ?_|refine .ret ?_|refine .exit ?_|refine .yes rfl ?_|refine .no rfl ?_|refine .nil ?_|refine .go ?_|refine .thenExit ?_|refine .thenRet ?_|refine .inExit ?_|refine .outExit rfl ?_|refine .inNormal ?_|refine .inRet ?_|refine .off rfl rfl ?_|refine .offU rfl rfl rfl ?_|(apply W.y rfl rfl;first|exact .move rfl|exact .assign rfl|exact .fieldC rfl|exact .loadW rfl (by (first|apply Ld.oneC|apply Ld.two|apply Ld.three|apply Ld.four|apply Ld.five);repeat(first|assumption|exact Row.cell (by assumption) (by first|rfl|assumption)))|exact .nilCheck rfl|exact .lenC rfl|exact .lenStrC rfl|exact .extract rfl rfl|exact .not rfl|exact .pickT rfl rfl|exact .pickF rfl rfl|exact .buildC rfl rfl|exact .indexC _ rfl rfl rfl (by omega)|exact .indexC 0 rfl rfl rfl (by omega)|exact .indexC 1 rfl rfl rfl (by omega)|exact .indexC 2 rfl rfl rfl (by omega)|exact .indexArrC _ rfl rfl rfl (by omega)|exact .indexArrC 0 rfl rfl rfl (by omega)|exact .indexArrC 1 rfl rfl rfl (by omega)|exact .indexArrC 2 rfl rfl rfl (by omega)|exact .add _ rfl rfl (wrap_i64 (by omega))|exact .sub _ rfl rfl (wrap_i64 (by omega))|exact .rem _ rfl rfl (by decide) (Int.tmod_eq_emod_of_nonneg (by omega))|exact .cmpT rfl rfl rfl (by unfold cmpP;omega)|exact .cmpF rfl rfl rfl (by unfold cmpP;omega)|fail)|fail)
  exact E.retCell2 rfl rfl (Ld.two (r5.cell (j := 0) rfl) (r5.cell (j := 1) rfl)) rfl ⟨rfl, (k3.then k4).put h5 (by omega)⟩

set_option maxHeartbeats 6400000 in
theorem radd_yes (F G : Nat → Prop) (last : Int) (vk va vd : Value) (es : List (Int × Delta)) (d : Delta) (w : World) (hE : Entries F w vk es) (hd : Deltas G w va vd d) (hF : ∀ k, F k → k < w.heap.size) (hG : ∀ k, G k → k < w.heap.size) (hl : 0 ≤ last ∧ last ≤ 1099511627776) (hn : es.length ≤ 12) (h0 : (d.1.isEmpty && d.2.isEmpty) = false) :
    Meets Try.prog 22 #[.agg #[.int .i64 last, vk], .agg #[va, vd]] w (fun r w' => ∃ v', r = .tuple #[.agg #[.int .i64 (last + 1), v'], .bool true] ∧ Entries (fun k => F k ∨ G k ∨ Fresh w w' k) w' v' (cut12 (es ++ [(last + 1, d)])) ∧ Keep Non w w') := by
  obtain ⟨A, c, rfl, _⟩ := id hE
  obtain ⟨A1, c1, e1, _⟩ := id hd.1
  obtain ⟨A2, c2, e2, _⟩ := id hd.2
  subst e1; subst e2
  refine Meets.enter Try.func22 Try.ntmps22 rfl rfl ?_
  (repeat first|refine .seq ?_|refine .region ?_|refine .block ?_|refine .skip ?_|refine .ret ?_|refine .exit ?_|refine .yes rfl ?_|refine .no rfl ?_|refine .nil ?_|refine .go ?_|refine .thenExit ?_|refine .thenRet ?_|refine .inExit ?_|refine .outExit rfl ?_|refine .inNormal ?_|refine .inRet ?_|refine .off rfl rfl ?_|refine .offU rfl rfl rfl ?_|(apply W.y rfl rfl;first|exact .move rfl|exact .assign rfl|exact .fieldC rfl|exact .loadW rfl (by (first|apply Ld.oneC|apply Ld.two|apply Ld.three|apply Ld.four|apply Ld.five);repeat(first|assumption|exact Row.cell (by assumption) (by first|rfl|assumption)))|exact .nilCheck rfl|exact .lenC rfl|exact .lenStrC rfl|exact .extract rfl rfl|exact .not rfl|exact .pickT rfl rfl|exact .pickF rfl rfl|exact .buildC rfl rfl|exact .indexC _ rfl rfl rfl (by omega)|exact .indexC 0 rfl rfl rfl (by omega)|exact .indexC 1 rfl rfl rfl (by omega)|exact .indexC 2 rfl rfl rfl (by omega)|exact .indexArrC _ rfl rfl rfl (by omega)|exact .indexArrC 0 rfl rfl rfl (by omega)|exact .indexArrC 1 rfl rfl rfl (by omega)|exact .indexArrC 2 rfl rfl rfl (by omega)|exact .add _ rfl rfl (wrap_i64 (by omega))|exact .sub _ rfl rfl (wrap_i64 (by omega))|exact .rem _ rfl rfl (by decide) (Int.tmod_eq_emod_of_nonneg (by omega))|exact .cmpT rfl rfl rfl (by unfold cmpP;omega)|exact .cmpF rfl rfl rfl (by unfold cmpP;omega)|fail)|fail)
  refine W.st rfl rfl (St.box rfl) (fun v1 w1 hv => ?_)
  obtain ⟨b2, rfl, hN1⟩ := hv
  have r1 : Row w1 b2 49 [.int .i64 last, .slice A es.length c] := hN1.row
  (repeat first|refine .seq ?_|refine .region ?_|refine .block ?_|refine .skip ?_|refine .ret ?_|refine .exit ?_|refine .yes rfl ?_|refine .no rfl ?_|refine .nil ?_|refine .go ?_|refine .thenExit ?_|refine .thenRet ?_|refine .inExit ?_|refine .outExit rfl ?_|refine .inNormal ?_|refine .inRet ?_|refine .off rfl rfl ?_|refine .offU rfl rfl rfl ?_|(apply W.y rfl rfl;first|exact .move rfl|exact .assign rfl|exact .fieldC rfl|exact .loadW rfl (by (first|apply Ld.oneC|apply Ld.two|apply Ld.three|apply Ld.four|apply Ld.five);repeat(first|assumption|exact Row.cell (by assumption) (by first|rfl|assumption)))|exact .nilCheck rfl|exact .lenC rfl|exact .lenStrC rfl|exact .extract rfl rfl|exact .not rfl|exact .pickT rfl rfl|exact .pickF rfl rfl|exact .buildC rfl rfl|exact .indexC _ rfl rfl rfl (by omega)|exact .indexC 0 rfl rfl rfl (by omega)|exact .indexC 1 rfl rfl rfl (by omega)|exact .indexC 2 rfl rfl rfl (by omega)|exact .indexArrC _ rfl rfl rfl (by omega)|exact .indexArrC 0 rfl rfl rfl (by omega)|exact .indexArrC 1 rfl rfl rfl (by omega)|exact .indexArrC 2 rfl rfl rfl (by omega)|exact .add _ rfl rfl (wrap_i64 (by omega))|exact .sub _ rfl rfl (wrap_i64 (by omega))|exact .rem _ rfl rfl (by decide) (Int.tmod_eq_emod_of_nonneg (by omega))|exact .cmpT rfl rfl rfl (by unfold cmpP;omega)|exact .cmpF rfl rfl rfl (by unfold cmpP;omega)|fail)|fail)
  refine W.st rfl rfl (St.box rfl) (fun v2 w2 hv => ?_)
  obtain ⟨b3, rfl, hN2⟩ := hv
  have r3 : Row w2 b3 32 [.slice A1 d.1.length c1, .slice A2 d.2.length c2] := hN2.row
  refine W.st rfl rfl St.allocC (fun v3 w3 hv => ?_)
  obtain ⟨b4, rfl, hN3⟩ := hv
  have k3 := (hN1.keep.then hN2.keep).then hN3.keep
  have r4 : Row w3 b4 49 [.int .i64 0, .slice none 0 0] := hN3.row
  have r3 := r3.keep hN3.keep (non_not _)
  have r1 := (r1.keep hN2.keep (non_not _)).keep hN3.keep (non_not _)
  have a1 := hN1.at_
  have a2 := hN2.at_
  have a3 := hN3.at_
  have s1 := hN1.size
  have s2 := hN2.size
  have s3 := hN3.size
  have p0 := r3.cell (j := 0) rfl
  have p1 := r3.cell (j := 1) rfl
  (repeat first|refine .seq ?_|refine .region ?_|refine .block ?_|refine .skip ?_|refine .ret ?_|refine .exit ?_|refine .yes rfl ?_|refine .no rfl ?_|refine .nil ?_|refine .go ?_|refine .thenExit ?_|refine .thenRet ?_|refine .inExit ?_|refine .outExit rfl ?_|refine .inNormal ?_|refine .inRet ?_|refine .off rfl rfl ?_|refine .offU rfl rfl rfl ?_|(apply W.y rfl rfl;first|exact .move rfl|exact .assign rfl|exact .fieldC rfl|exact .loadW rfl (by (first|apply Ld.oneC|apply Ld.two|apply Ld.three|apply Ld.four|apply Ld.five);repeat(first|assumption|exact Row.cell (by assumption) (by first|rfl|assumption)))|exact .nilCheck rfl|exact .lenC rfl|exact .lenStrC rfl|exact .extract rfl rfl|exact .not rfl|exact .pickT rfl rfl|exact .pickF rfl rfl|exact .buildC rfl rfl|exact .indexC _ rfl rfl rfl (by omega)|exact .indexC 0 rfl rfl rfl (by omega)|exact .indexC 1 rfl rfl rfl (by omega)|exact .indexC 2 rfl rfl rfl (by omega)|exact .indexArrC _ rfl rfl rfl (by omega)|exact .indexArrC 0 rfl rfl rfl (by omega)|exact .indexArrC 1 rfl rfl rfl (by omega)|exact .indexArrC 2 rfl rfl rfl (by omega)|exact .add _ rfl rfl (wrap_i64 (by omega))|exact .sub _ rfl rfl (wrap_i64 (by omega))|exact .rem _ rfl rfl (by decide) (Int.tmod_eq_emod_of_nonneg (by omega))|exact .cmpT rfl rfl rfl (by unfold cmpP;omega)|exact .cmpF rfl rfl rfl (by unfold cmpP;omega)|fail)|fail)
  refine W.st rfl rfl (St.callC rfl (rempty_spec G _ _ d w3 (hd.keep k3 (fun _ _ => non_not _)))) (fun v4 w4 h4 => ?_)
  obtain ⟨rfl, k4⟩ := h4
  rw [h0]
  have r1 := r1.keep k4 (non_not _)
  have r3 := r3.keep k4 (non_not _)
  have r4 := r4.keep k4 (non_not _)
  have q0 := r1.cell (j := 0) rfl
  clear p0 p1
  (repeat first|refine .seq ?_|refine .region ?_|refine .block ?_|refine .skip ?_|refine .ret ?_|refine .exit ?_|refine .yes rfl ?_|refine .no rfl ?_|refine .nil ?_|refine .go ?_|refine .thenExit ?_|refine .thenRet ?_|refine .inExit ?_|refine .outExit rfl ?_|refine .inNormal ?_|refine .inRet ?_|refine .off rfl rfl ?_|refine .offU rfl rfl rfl ?_|(apply W.y rfl rfl;first|exact .move rfl|exact .assign rfl|exact .fieldC rfl|exact .loadW rfl (by (first|apply Ld.oneC|apply Ld.two|apply Ld.three|apply Ld.four|apply Ld.five);repeat(first|assumption|exact Row.cell (by assumption) (by first|rfl|assumption)))|exact .nilCheck rfl|exact .lenC rfl|exact .lenStrC rfl|exact .extract rfl rfl|exact .not rfl|exact .pickT rfl rfl|exact .pickF rfl rfl|exact .buildC rfl rfl|exact .indexC _ rfl rfl rfl (by omega)|exact .indexC 0 rfl rfl rfl (by omega)|exact .indexC 1 rfl rfl rfl (by omega)|exact .indexC 2 rfl rfl rfl (by omega)|exact .indexArrC _ rfl rfl rfl (by omega)|exact .indexArrC 0 rfl rfl rfl (by omega)|exact .indexArrC 1 rfl rfl rfl (by omega)|exact .indexArrC 2 rfl rfl rfl (by omega)|exact .add _ rfl rfl (wrap_i64 (by omega))|exact .sub _ rfl rfl (wrap_i64 (by omega))|exact .rem _ rfl rfl (by decide) (Int.tmod_eq_emod_of_nonneg (by omega))|exact .cmpT rfl rfl rfl (by unfold cmpP;omega)|exact .cmpF rfl rfl rfl (by unfold cmpP;omega)|fail)|fail)
  refine W.st0 rfl (St.storeC rfl rfl rfl r1 (by simp [Value.cells]) (one1 rfl)) (fun v5 w5 h5 => ?_)
  have r1 : Row w5 b2 49 [.int .i64 (last + 1), .slice A es.length c] := h5.row
  have r3 := r3.keep h5.keep (by omega)
  have r4 := r4.keep h5.keep (by omega)
  have k5 : Keep Non w w5 := (k3.then k4).put h5 (by omega)
  have s4 := k4.size
  have s5 := h5.size
  clear q0 hN1 hN2 hN3 h5 k3 k4
  have hE5 := hE.keep k5 (fun _ _ => non_not _)
  have hd5 := hd.keep k5 (fun _ _ => non_not _)
  have q0 := r1.cell (j := 0) rfl
  have q1 := r1.cell (j := 1) rfl
  have p0 := r3.cell (j := 0) rfl
  have p1 := r3.cell (j := 1) rfl
  (repeat first|refine .seq ?_|refine .region ?_|refine .block ?_|refine .skip ?_|refine .ret ?_|refine .exit ?_|refine .yes rfl ?_|refine .no rfl ?_|refine .nil ?_|refine .go ?_|refine .thenExit ?_|refine .thenRet ?_|refine .inExit ?_|refine .outExit rfl ?_|refine .inNormal ?_|refine .inRet ?_|refine .off rfl rfl ?_|refine .offU rfl rfl rfl ?_|(apply W.y rfl rfl;first|exact .move rfl|exact .assign rfl|exact .fieldC rfl|exact .loadW rfl (by (first|apply Ld.oneC|apply Ld.two|apply Ld.three|apply Ld.four|apply Ld.five);repeat(first|assumption|exact Row.cell (by assumption) (by first|rfl|assumption)))|exact .nilCheck rfl|exact .lenC rfl|exact .lenStrC rfl|exact .extract rfl rfl|exact .not rfl|exact .pickT rfl rfl|exact .pickF rfl rfl|exact .buildC rfl rfl|exact .indexC _ rfl rfl rfl (by omega)|exact .indexC 0 rfl rfl rfl (by omega)|exact .indexC 1 rfl rfl rfl (by omega)|exact .indexC 2 rfl rfl rfl (by omega)|exact .indexArrC _ rfl rfl rfl (by omega)|exact .indexArrC 0 rfl rfl rfl (by omega)|exact .indexArrC 1 rfl rfl rfl (by omega)|exact .indexArrC 2 rfl rfl rfl (by omega)|exact .add _ rfl rfl (wrap_i64 (by omega))|exact .sub _ rfl rfl (wrap_i64 (by omega))|exact .rem _ rfl rfl (by decide) (Int.tmod_eq_emod_of_nonneg (by omega))|exact .cmpT rfl rfl rfl (by unfold cmpP;omega)|exact .cmpF rfl rfl rfl (by unfold cmpP;omega)|fail)|fail)
  refine C.draw 12 (fun wq => Keep Non w5 wq) [11] mixed rfl (fun w6 kw6 ew6 => ?_)
  ((refine .take 1 rfl (by kernel_rfl) rfl rfl (.fieldC rfl) ?_); (refine .read 2 rfl (by kernel_rfl) rfl rfl (by assumption) (.load rfl (fun w hw => (by (first|apply Ld.oneC|apply Ld.two|apply Ld.three|apply Ld.four|apply Ld.five);repeat(apply Keep.cell hw;(first|assumption|exact Row.cell (by assumption) (by first|rfl|assumption));first|exact non_not _|assumption|(intro e;omega)|(simp;omega))))) ?_); (refine .take 4 rfl (by kernel_rfl) rfl rfl (.fieldC rfl) ?_); (refine .read 5 rfl (by kernel_rfl) rfl rfl (by assumption) (.load rfl (fun w hw => (by (first|apply Ld.oneC|apply Ld.two|apply Ld.three|apply Ld.four|apply Ld.five);repeat(apply Keep.cell hw;(first|assumption|exact Row.cell (by assumption) (by first|rfl|assumption));first|exact non_not _|assumption|(intro e;omega)|(simp;omega))))) ?_); (refine .read 6 rfl (by kernel_rfl) rfl rfl (by assumption) (.load rfl (fun w hw => (by (first|apply Ld.oneC|apply Ld.two|apply Ld.three|apply Ld.four|apply Ld.five);repeat(apply Keep.cell hw;(first|assumption|exact Row.cell (by assumption) (by first|rfl|assumption));first|exact non_not _|assumption|(intro e;omega)|(simp;omega))))) ?_); (refine .take 7 rfl (by kernel_rfl) rfl rfl (.buildC rfl rfl) ?_))
  have s6 := kw6.size
  have hE6 := hE5.keep kw6 (fun _ _ => non_not _)
  have hd6 := hd5.keep kw6 (fun _ _ => non_not _)
  have r1 := r1.keep kw6 (non_not _)
  have r4 := r4.keep kw6 (non_not _)
  clear q0 q1 p0 p1 r3 hE5 hd5
  refine D.any [0, 8] (by kernel_rfl) (Any.cons rfl rfl rfl (St.lit (vs := []) rfl rfl (by omega) (fun _ h => by cases h)) (fun v7 w7 h7 => ⟨fun _ hS => hS.then (by obtain ⟨_, _, hN⟩ := h7; exact hN.keep), ?_⟩)
    (Any.cons rfl rfl rfl (St.lit (vs := [.agg #[.int .i64 (last + 1), .slice A1 d.1.length c1, .slice A2 d.2.length c2]]) rfl rfl (by omega) (fun v hv => by simp only [List.mem_singleton] at hv; subst hv; rfl)) (fun v7 w7 h7 => ⟨fun _ hS => hS.then (by obtain ⟨_, _, hN⟩ := h7; exact hN.keep), ?_⟩) Any.nil))
  · obtain ⟨b13, rfl, hN7⟩ := h7
    have own7 : w7.ownsRow w6.heap.size 70 3 (.slice (some ⟨b13, 0, none⟩) 0 0) 0 [] := ⟨rfl, .inr ⟨b13, 0, #[], rfl, by have := hN7.at_; omega, hN7.row, Nat.le_refl _, Nat.zero_le _, rfl, rfl⟩⟩
    have a7 := hN7.at_
    have s7 := hN7.size
    have k67 := hN7.keep
    have hE7 := hE6.keep k67 (fun _ _ => non_not _)
    refine D.any [3, 8] (by kernel_rfl) (Any.cons rfl rfl rfl (St.appendEs w6.heap.size rfl rfl own7 hE7 (by omega) (by omega) (by omega)) (fun v8 w8 h8 => ⟨fun _ hS => hS.far (by obtain ⟨_, _, _, _, k, _⟩ := h8; exact k) (fun i hi => by have := ownB' hi; omega), ?_⟩)
      (Any.cons rfl rfl rfl (St.lit (vs := [.agg #[.int .i64 (last + 1), .slice A1 d.1.length c1, .slice A2 d.2.length c2]]) rfl rfl (by omega) (fun v hv => by simp only [List.mem_singleton] at hv; subst hv; rfl)) (fun v8 w8 h8 => ⟨fun _ hS => hS.then (by obtain ⟨_, _, hN⟩ := h8; exact hN.keep), ?_⟩) Any.nil))
    · skip
      
      
      obtain ⟨ns, own8, hns, hR, k8, d8⟩ := h8
      have s8 := k8.size
      have hlt8 := own8.lt
      refine D.one 8 rfl (by kernel_rfl) rfl rfl (St.lit (vs := [.agg #[.int .i64 (last + 1), .slice A1 d.1.length c1, .slice A2 d.2.length c2]]) rfl rfl (by omega) (fun v hv => by simp only [List.mem_singleton] at hv; subst hv; rfl)) (fun v9 w9 h9 => ⟨fun _ hS => hS.then (by obtain ⟨_, _, hN⟩ := h9; exact hN.keep), ?_⟩)
      obtain ⟨b21, rfl, hN9⟩ := h9
      have a9 := hN9.at_
      have s9 := hN9.size
      have r21 := hN9.row
      have k69 : Keep Non w6 w9 := (k67.far k8 (fun i hi => by have := ownB' hi; omega)).then hN9.keep
      have own9 := own_keep hN9.keep own8 (fun _ _ => non_not _)
      have hR : ∀ (i : Nat) (x : Int × Delta), es[i]? = some x → REntry F w9 ((ns.drop (i * 3)).take 3) x := fun i x hx => REntry.stable _ _ _ _ _ hN9.keep (fun _ _ => non_not _) (REntry.stable _ _ _ _ _ k8 (fun k hk e => by have := hF k hk; have := ownB' e; omega) (hR i x hx))
      have hlt9 := own9.lt
      refine D.one 9 rfl (by kernel_rfl) rfl rfl (St.appendC w6.heap.size [.int .i64 (last + 1), .slice A1 d.1.length c1, .slice A2 d.2.length c2] rfl rfl own9 (r21.cells 0 _ rfl) rfl (one3 rfl rfl rfl) (by omega) (by omega)) (fun v10 w10 h10 => ⟨fun _ hS => hS.far h10.2.1 (fun j hj => by have := hlt9 j hj.symm; omega), ?_⟩)
      obtain ⟨own10, k10, d10⟩ := h10
      have s10 := k10.size
      have k610 : Keep Non w6 w10 := k69.far k10 (fun j hj => by have := hlt9 j hj.symm; omega)
      have r1 := r1.keep k610 (non_not _)
      have r4 := r4.keep k610 (non_not _)
      have hlt10 := own10.lt
      obtain ⟨A10, c10, rfl⟩ : ∃ A' c', v10 = .slice A' (0 + es.length + 1) c' := by
        obtain ⟨c', e | ⟨b, o, e⟩⟩ := own_pl own10
        · exact ⟨_, _, e⟩
        · exact ⟨_, _, e⟩
      have hel : ∀ (j : Nat) (x : Int × Delta), (es ++ [(last + 1, d)])[j]? = some x → REntry (fun k => F k ∨ G k) w10 ((([] ++ ns ++ [.int .i64 (last + 1), .slice A1 d.1.length c1, .slice A2 d.2.length c2] : List Value).drop (j * 3)).take 3) x := fun j x hx => by
        by_cases hj : j < es.length
        · rw [List.getElem?_append_left hj] at hx
          rw [List.nil_append, take3_old hns hj]
          exact REntry.mono (fun _ h => .inl h) (REntry.stable _ _ _ _ _ k10 (fun k hk e => by have := hF k hk; have := hlt9 k e.symm; omega) (hR j x hx))
        · have hjl := (List.getElem?_eq_some_iff.1 hx).1
          rw [List.length_append, List.length_singleton] at hjl
          have hje : j = es.length := by omega
          rw [hje, List.getElem?_append_right (Nat.le_refl _), Nat.sub_self] at hx
          simp only [List.getElem?_cons_zero, Option.some.injEq] at hx
          subst hx
          rw [hje, List.nil_append, take3_snoc hns rfl]
          exact ⟨_, _, rfl, (hd6.keep k610 (fun _ _ => non_not _)).mono (fun _ h => .inr h)⟩
      ((refine .take 10 rfl (by kernel_rfl) rfl rfl (.fieldC rfl) ?_))
      refine D.one0 11 rfl (by kernel_rfl) rfl (St.storeC rfl rfl rfl r1 (by simp [Value.cells]) (one1 rfl)) (fun v11 w11 h11 => ⟨fun h => absurd h (by decide), ?_⟩)
      refine D.fin (by kernel_rfl) ?_
      have hs11 := h11.size
      have r11 : Row w11 b2 49 [.int .i64 (last + 1), .slice A10 (0 + es.length + 1) c10] := h11.row
      have r4 := r4.keep h11.keep (by omega)
      have own11 := own_keep h11.keep own10 (fun b hb e => by have := hlt10 b hb; omega)
      have hE11 : Entries (fun k => F k ∨ G k ∨ (w6.heap.size ≤ k ∧ k < w11.heap.size)) w11 (.slice A10 (0 + es.length + 1) c10) (es ++ [(last + 1, d)]) :=
        Sl.of_own own11 (by simp) (by omega) (fun b hb => .inr (.inr (own11.lt b hb))) (fun j x hx => REntry.mono (fun k hk => hk.imp id .inl) (REntry.stable _ _ _ _ _ h11.keep (fun k hk e => by rcases hk with hk | hk; (have := hF k hk; omega); (have := hG k hk; omega)) (hel j x hx)))
      clear hel own10 own11 hR own9 hE6 hd6
      (repeat first|refine C.use (radd_tail _ b2 b4 (last + 1) _ _ w11 r11 r4 (by omega) hE11 (fun k hk => by rcases hk with hk | hk | hk; (have := hF k hk; omega); (have := hG k hk; omega); omega) (by simp; omega)) ⟨rfl, rfl, trivial⟩ ?_|refine .seq ?_|refine .region ?_|refine .block ?_|refine .skip ?_|refine .ret ?_|refine .exit ?_|refine .yes rfl ?_|refine .no rfl ?_|refine .nil ?_|refine .go ?_|refine .thenExit ?_|refine .thenRet ?_|refine .inExit ?_|refine .outExit rfl ?_|refine .inNormal ?_|refine .inRet ?_|refine .off rfl rfl ?_|refine .offU rfl rfl rfl ?_|(apply W.y rfl rfl;first|exact .move rfl|exact .assign rfl|exact .fieldC rfl|exact .loadW rfl (by (first|apply Ld.oneC|apply Ld.two|apply Ld.three|apply Ld.four|apply Ld.five);repeat(first|assumption|exact Row.cell (by assumption) (by first|rfl|assumption)))|exact .nilCheck rfl|exact .lenC rfl|exact .lenStrC rfl|exact .extract rfl rfl|exact .not rfl|exact .pickT rfl rfl|exact .pickF rfl rfl|exact .buildC rfl rfl|exact .indexC _ rfl rfl rfl (by omega)|exact .indexC 0 rfl rfl rfl (by omega)|exact .indexC 1 rfl rfl rfl (by omega)|exact .indexC 2 rfl rfl rfl (by omega)|exact .indexArrC _ rfl rfl rfl (by omega)|exact .indexArrC 0 rfl rfl rfl (by omega)|exact .indexArrC 1 rfl rfl rfl (by omega)|exact .indexArrC 2 rfl rfl rfl (by omega)|exact .add _ rfl rfl (wrap_i64 (by omega))|exact .sub _ rfl rfl (wrap_i64 (by omega))|exact .rem _ rfl rfl (by decide) (Int.tmod_eq_emod_of_nonneg (by omega))|exact .cmpT rfl rfl rfl (by unfold cmpP;omega)|exact .cmpF rfl rfl rfl (by unfold cmpP;omega)|fail)|fail)
      rintro e L' w12 ⟨rfl, v', rfl, r5, hE12, k12⟩
      have s12 := k12.size
      (repeat first|refine .seq ?_|refine .region ?_|refine .block ?_|refine .skip ?_|refine .ret ?_|refine .exit ?_|refine .yes rfl ?_|refine .no rfl ?_|refine .nil ?_|refine .go ?_|refine .thenExit ?_|refine .thenRet ?_|refine .inExit ?_|refine .outExit rfl ?_|refine .inNormal ?_|refine .inRet ?_|refine .off rfl rfl ?_|refine .offU rfl rfl rfl ?_|(apply W.y rfl rfl;first|exact .move rfl|exact .assign rfl|exact .fieldC rfl|exact .loadW rfl (by (first|apply Ld.oneC|apply Ld.two|apply Ld.three|apply Ld.four|apply Ld.five);repeat(first|assumption|exact Row.cell (by assumption) (by first|rfl|assumption)))|exact .nilCheck rfl|exact .lenC rfl|exact .lenStrC rfl|exact .extract rfl rfl|exact .not rfl|exact .pickT rfl rfl|exact .pickF rfl rfl|exact .buildC rfl rfl|exact .indexC _ rfl rfl rfl (by omega)|exact .indexC 0 rfl rfl rfl (by omega)|exact .indexC 1 rfl rfl rfl (by omega)|exact .indexC 2 rfl rfl rfl (by omega)|exact .indexArrC _ rfl rfl rfl (by omega)|exact .indexArrC 0 rfl rfl rfl (by omega)|exact .indexArrC 1 rfl rfl rfl (by omega)|exact .indexArrC 2 rfl rfl rfl (by omega)|exact .add _ rfl rfl (wrap_i64 (by omega))|exact .sub _ rfl rfl (wrap_i64 (by omega))|exact .rem _ rfl rfl (by decide) (Int.tmod_eq_emod_of_nonneg (by omega))|exact .cmpT rfl rfl rfl (by unfold cmpP;omega)|exact .cmpF rfl rfl rfl (by unfold cmpP;omega)|fail)|fail)
      exact E.retCell2 rfl rfl (Ld.two (r5.cell (j := 0) rfl) (r5.cell (j := 1) rfl)) rfl ⟨_, rfl, hE12.mono (fun k hk => by rcases hk with hk | hk | hk; (exact .inl hk); (exact .inr (.inl hk)); exact .inr (.inr ⟨by omega, by omega⟩)), (((k5.then kw6).then k610).far h11.keep (fun i hi => by omega)).far k12 (fun i hi => by omega)⟩
    · skip
      
      
      obtain ⟨b21, rfl, hN8⟩ := h8
      have a8 := hN8.at_
      have s8 := hN8.size
      have own8 := own_keep hN8.keep own7 (fun _ _ => non_not _)
      have hE8 := hE7.keep hN8.keep (fun _ _ => non_not _)
      have r21 := hN8.row
      refine D.one 3 rfl (by kernel_rfl) rfl rfl (St.appendEs w6.heap.size rfl rfl own8 hE8 (by omega) (by omega) (by omega)) (fun v9 w9 h9 => ⟨fun _ hS => hS.far (by obtain ⟨_, _, _, _, k, _⟩ := h9; exact k) (fun i hi => by have := ownB' hi; omega), ?_⟩)
      obtain ⟨ns, own9, hns, hR, k9, d9⟩ := h9
      have s9 := k9.size
      have r21 := r21.keep k9 (fun e => by have := ownB' e; omega)
      have k69 : Keep Non w6 w9 := (k67.then hN8.keep).far k9 (fun i hi => by have := ownB' hi; omega)
      have hR : ∀ (i : Nat) (x : Int × Delta), es[i]? = some x → REntry F w9 ((ns.drop (i * 3)).take 3) x := fun i x hx => REntry.stable _ _ _ _ _ k9 (fun k hk e => by have := hF k hk; have := ownB' e; omega) (hR i x hx)
      have hlt9 := own9.lt
      refine D.one 9 rfl (by kernel_rfl) rfl rfl (St.appendC w6.heap.size [.int .i64 (last + 1), .slice A1 d.1.length c1, .slice A2 d.2.length c2] rfl rfl own9 (r21.cells 0 _ rfl) rfl (one3 rfl rfl rfl) (by omega) (by omega)) (fun v10 w10 h10 => ⟨fun _ hS => hS.far h10.2.1 (fun j hj => by have := hlt9 j hj.symm; omega), ?_⟩)
      obtain ⟨own10, k10, d10⟩ := h10
      have s10 := k10.size
      have k610 : Keep Non w6 w10 := k69.far k10 (fun j hj => by have := hlt9 j hj.symm; omega)
      have r1 := r1.keep k610 (non_not _)
      have r4 := r4.keep k610 (non_not _)
      have hlt10 := own10.lt
      obtain ⟨A10, c10, rfl⟩ : ∃ A' c', v10 = .slice A' (0 + es.length + 1) c' := by
        obtain ⟨c', e | ⟨b, o, e⟩⟩ := own_pl own10
        · exact ⟨_, _, e⟩
        · exact ⟨_, _, e⟩
      have hel : ∀ (j : Nat) (x : Int × Delta), (es ++ [(last + 1, d)])[j]? = some x → REntry (fun k => F k ∨ G k) w10 ((([] ++ ns ++ [.int .i64 (last + 1), .slice A1 d.1.length c1, .slice A2 d.2.length c2] : List Value).drop (j * 3)).take 3) x := fun j x hx => by
        by_cases hj : j < es.length
        · rw [List.getElem?_append_left hj] at hx
          rw [List.nil_append, take3_old hns hj]
          exact REntry.mono (fun _ h => .inl h) (REntry.stable _ _ _ _ _ k10 (fun k hk e => by have := hF k hk; have := hlt9 k e.symm; omega) (hR j x hx))
        · have hjl := (List.getElem?_eq_some_iff.1 hx).1
          rw [List.length_append, List.length_singleton] at hjl
          have hje : j = es.length := by omega
          rw [hje, List.getElem?_append_right (Nat.le_refl _), Nat.sub_self] at hx
          simp only [List.getElem?_cons_zero, Option.some.injEq] at hx
          subst hx
          rw [hje, List.nil_append, take3_snoc hns rfl]
          exact ⟨_, _, rfl, (hd6.keep k610 (fun _ _ => non_not _)).mono (fun _ h => .inr h)⟩
      ((refine .take 10 rfl (by kernel_rfl) rfl rfl (.fieldC rfl) ?_))
      refine D.one0 11 rfl (by kernel_rfl) rfl (St.storeC rfl rfl rfl r1 (by simp [Value.cells]) (one1 rfl)) (fun v11 w11 h11 => ⟨fun h => absurd h (by decide), ?_⟩)
      refine D.fin (by kernel_rfl) ?_
      have hs11 := h11.size
      have r11 : Row w11 b2 49 [.int .i64 (last + 1), .slice A10 (0 + es.length + 1) c10] := h11.row
      have r4 := r4.keep h11.keep (by omega)
      have own11 := own_keep h11.keep own10 (fun b hb e => by have := hlt10 b hb; omega)
      have hE11 : Entries (fun k => F k ∨ G k ∨ (w6.heap.size ≤ k ∧ k < w11.heap.size)) w11 (.slice A10 (0 + es.length + 1) c10) (es ++ [(last + 1, d)]) :=
        Sl.of_own own11 (by simp) (by omega) (fun b hb => .inr (.inr (own11.lt b hb))) (fun j x hx => REntry.mono (fun k hk => hk.imp id .inl) (REntry.stable _ _ _ _ _ h11.keep (fun k hk e => by rcases hk with hk | hk; (have := hF k hk; omega); (have := hG k hk; omega)) (hel j x hx)))
      clear hel own10 own11 hR own9 hE6 hd6
      (repeat first|refine C.use (radd_tail _ b2 b4 (last + 1) _ _ w11 r11 r4 (by omega) hE11 (fun k hk => by rcases hk with hk | hk | hk; (have := hF k hk; omega); (have := hG k hk; omega); omega) (by simp; omega)) ⟨rfl, rfl, trivial⟩ ?_|refine .seq ?_|refine .region ?_|refine .block ?_|refine .skip ?_|refine .ret ?_|refine .exit ?_|refine .yes rfl ?_|refine .no rfl ?_|refine .nil ?_|refine .go ?_|refine .thenExit ?_|refine .thenRet ?_|refine .inExit ?_|refine .outExit rfl ?_|refine .inNormal ?_|refine .inRet ?_|refine .off rfl rfl ?_|refine .offU rfl rfl rfl ?_|(apply W.y rfl rfl;first|exact .move rfl|exact .assign rfl|exact .fieldC rfl|exact .loadW rfl (by (first|apply Ld.oneC|apply Ld.two|apply Ld.three|apply Ld.four|apply Ld.five);repeat(first|assumption|exact Row.cell (by assumption) (by first|rfl|assumption)))|exact .nilCheck rfl|exact .lenC rfl|exact .lenStrC rfl|exact .extract rfl rfl|exact .not rfl|exact .pickT rfl rfl|exact .pickF rfl rfl|exact .buildC rfl rfl|exact .indexC _ rfl rfl rfl (by omega)|exact .indexC 0 rfl rfl rfl (by omega)|exact .indexC 1 rfl rfl rfl (by omega)|exact .indexC 2 rfl rfl rfl (by omega)|exact .indexArrC _ rfl rfl rfl (by omega)|exact .indexArrC 0 rfl rfl rfl (by omega)|exact .indexArrC 1 rfl rfl rfl (by omega)|exact .indexArrC 2 rfl rfl rfl (by omega)|exact .add _ rfl rfl (wrap_i64 (by omega))|exact .sub _ rfl rfl (wrap_i64 (by omega))|exact .rem _ rfl rfl (by decide) (Int.tmod_eq_emod_of_nonneg (by omega))|exact .cmpT rfl rfl rfl (by unfold cmpP;omega)|exact .cmpF rfl rfl rfl (by unfold cmpP;omega)|fail)|fail)
      rintro e L' w12 ⟨rfl, v', rfl, r5, hE12, k12⟩
      have s12 := k12.size
      (repeat first|refine .seq ?_|refine .region ?_|refine .block ?_|refine .skip ?_|refine .ret ?_|refine .exit ?_|refine .yes rfl ?_|refine .no rfl ?_|refine .nil ?_|refine .go ?_|refine .thenExit ?_|refine .thenRet ?_|refine .inExit ?_|refine .outExit rfl ?_|refine .inNormal ?_|refine .inRet ?_|refine .off rfl rfl ?_|refine .offU rfl rfl rfl ?_|(apply W.y rfl rfl;first|exact .move rfl|exact .assign rfl|exact .fieldC rfl|exact .loadW rfl (by (first|apply Ld.oneC|apply Ld.two|apply Ld.three|apply Ld.four|apply Ld.five);repeat(first|assumption|exact Row.cell (by assumption) (by first|rfl|assumption)))|exact .nilCheck rfl|exact .lenC rfl|exact .lenStrC rfl|exact .extract rfl rfl|exact .not rfl|exact .pickT rfl rfl|exact .pickF rfl rfl|exact .buildC rfl rfl|exact .indexC _ rfl rfl rfl (by omega)|exact .indexC 0 rfl rfl rfl (by omega)|exact .indexC 1 rfl rfl rfl (by omega)|exact .indexC 2 rfl rfl rfl (by omega)|exact .indexArrC _ rfl rfl rfl (by omega)|exact .indexArrC 0 rfl rfl rfl (by omega)|exact .indexArrC 1 rfl rfl rfl (by omega)|exact .indexArrC 2 rfl rfl rfl (by omega)|exact .add _ rfl rfl (wrap_i64 (by omega))|exact .sub _ rfl rfl (wrap_i64 (by omega))|exact .rem _ rfl rfl (by decide) (Int.tmod_eq_emod_of_nonneg (by omega))|exact .cmpT rfl rfl rfl (by unfold cmpP;omega)|exact .cmpF rfl rfl rfl (by unfold cmpP;omega)|fail)|fail)
      exact E.retCell2 rfl rfl (Ld.two (r5.cell (j := 0) rfl) (r5.cell (j := 1) rfl)) rfl ⟨_, rfl, hE12.mono (fun k hk => by rcases hk with hk | hk | hk; (exact .inl hk); (exact .inr (.inl hk)); exact .inr (.inr ⟨by omega, by omega⟩)), (((k5.then kw6).then k610).far h11.keep (fun i hi => by omega)).far k12 (fun i hi => by omega)⟩
  · skip
    
    obtain ⟨b21, rfl, hN7⟩ := h7
    have a7 := hN7.at_
    have s7 := hN7.size
    refine D.one 0 rfl (by kernel_rfl) rfl rfl (St.lit (vs := []) rfl rfl (by omega) (fun _ h => by cases h)) (fun v8 w8 h8 => ⟨fun _ hS => hS.then (by obtain ⟨_, _, hN⟩ := h8; exact hN.keep), ?_⟩)
    obtain ⟨b13, rfl, hN8⟩ := h8
    have a8 := hN8.at_
    have s8 := hN8.size
    have own8 : w8.ownsRow w6.heap.size 70 3 (.slice (some ⟨b13, 0, none⟩) 0 0) 0 [] := ⟨rfl, .inr ⟨b13, 0, #[], rfl, by omega, hN8.row, Nat.le_refl _, Nat.zero_le _, rfl, rfl⟩⟩
    have k68 := hN7.keep.then hN8.keep
    have hE8 := hE6.keep k68 (fun _ _ => non_not _)
    have r21 := hN7.row.keep hN8.keep (non_not _)
    refine D.one 3 rfl (by kernel_rfl) rfl rfl (St.appendEs w6.heap.size rfl rfl own8 hE8 (by omega) (by omega) (by omega)) (fun v9 w9 h9 => ⟨fun _ hS => hS.far (by obtain ⟨_, _, _, _, k, _⟩ := h9; exact k) (fun i hi => by have := ownB' hi; omega), ?_⟩)
    obtain ⟨ns, own9, hns, hR, k9, d9⟩ := h9
    have s9 := k9.size
    have r21 := r21.keep k9 (fun e => by have := ownB' e; omega)
    have k69 : Keep Non w6 w9 := k68.far k9 (fun i hi => by have := ownB' hi; omega)
    have hR : ∀ (i : Nat) (x : Int × Delta), es[i]? = some x → REntry F w9 ((ns.drop (i * 3)).take 3) x := fun i x hx => REntry.stable _ _ _ _ _ k9 (fun k hk e => by have := hF k hk; have := ownB' e; omega) (hR i x hx)
    have hlt9 := own9.lt
    refine D.one 9 rfl (by kernel_rfl) rfl rfl (St.appendC w6.heap.size [.int .i64 (last + 1), .slice A1 d.1.length c1, .slice A2 d.2.length c2] rfl rfl own9 (r21.cells 0 _ rfl) rfl (one3 rfl rfl rfl) (by omega) (by omega)) (fun v10 w10 h10 => ⟨fun _ hS => hS.far h10.2.1 (fun j hj => by have := hlt9 j hj.symm; omega), ?_⟩)
    obtain ⟨own10, k10, d10⟩ := h10
    have s10 := k10.size
    have k610 : Keep Non w6 w10 := k69.far k10 (fun j hj => by have := hlt9 j hj.symm; omega)
    have r1 := r1.keep k610 (non_not _)
    have r4 := r4.keep k610 (non_not _)
    have hlt10 := own10.lt
    obtain ⟨A10, c10, rfl⟩ : ∃ A' c', v10 = .slice A' (0 + es.length + 1) c' := by
      obtain ⟨c', e | ⟨b, o, e⟩⟩ := own_pl own10
      · exact ⟨_, _, e⟩
      · exact ⟨_, _, e⟩
    have hel : ∀ (j : Nat) (x : Int × Delta), (es ++ [(last + 1, d)])[j]? = some x → REntry (fun k => F k ∨ G k) w10 ((([] ++ ns ++ [.int .i64 (last + 1), .slice A1 d.1.length c1, .slice A2 d.2.length c2] : List Value).drop (j * 3)).take 3) x := fun j x hx => by
      by_cases hj : j < es.length
      · rw [List.getElem?_append_left hj] at hx
        rw [List.nil_append, take3_old hns hj]
        exact REntry.mono (fun _ h => .inl h) (REntry.stable _ _ _ _ _ k10 (fun k hk e => by have := hF k hk; have := hlt9 k e.symm; omega) (hR j x hx))
      · have hjl := (List.getElem?_eq_some_iff.1 hx).1
        rw [List.length_append, List.length_singleton] at hjl
        have hje : j = es.length := by omega
        rw [hje, List.getElem?_append_right (Nat.le_refl _), Nat.sub_self] at hx
        simp only [List.getElem?_cons_zero, Option.some.injEq] at hx
        subst hx
        rw [hje, List.nil_append, take3_snoc hns rfl]
        exact ⟨_, _, rfl, (hd6.keep k610 (fun _ _ => non_not _)).mono (fun _ h => .inr h)⟩
    ((refine .take 10 rfl (by kernel_rfl) rfl rfl (.fieldC rfl) ?_))
    refine D.one0 11 rfl (by kernel_rfl) rfl (St.storeC rfl rfl rfl r1 (by simp [Value.cells]) (one1 rfl)) (fun v11 w11 h11 => ⟨fun h => absurd h (by decide), ?_⟩)
    refine D.fin (by kernel_rfl) ?_
    have hs11 := h11.size
    have r11 : Row w11 b2 49 [.int .i64 (last + 1), .slice A10 (0 + es.length + 1) c10] := h11.row
    have r4 := r4.keep h11.keep (by omega)
    have own11 := own_keep h11.keep own10 (fun b hb e => by have := hlt10 b hb; omega)
    have hE11 : Entries (fun k => F k ∨ G k ∨ (w6.heap.size ≤ k ∧ k < w11.heap.size)) w11 (.slice A10 (0 + es.length + 1) c10) (es ++ [(last + 1, d)]) :=
      Sl.of_own own11 (by simp) (by omega) (fun b hb => .inr (.inr (own11.lt b hb))) (fun j x hx => REntry.mono (fun k hk => hk.imp id .inl) (REntry.stable _ _ _ _ _ h11.keep (fun k hk e => by rcases hk with hk | hk; (have := hF k hk; omega); (have := hG k hk; omega)) (hel j x hx)))
    clear hel own10 own11 hR own9 hE6 hd6
    (repeat first|refine C.use (radd_tail _ b2 b4 (last + 1) _ _ w11 r11 r4 (by omega) hE11 (fun k hk => by rcases hk with hk | hk | hk; (have := hF k hk; omega); (have := hG k hk; omega); omega) (by simp; omega)) ⟨rfl, rfl, trivial⟩ ?_|refine .seq ?_|refine .region ?_|refine .block ?_|refine .skip ?_|refine .ret ?_|refine .exit ?_|refine .yes rfl ?_|refine .no rfl ?_|refine .nil ?_|refine .go ?_|refine .thenExit ?_|refine .thenRet ?_|refine .inExit ?_|refine .outExit rfl ?_|refine .inNormal ?_|refine .inRet ?_|refine .off rfl rfl ?_|refine .offU rfl rfl rfl ?_|(apply W.y rfl rfl;first|exact .move rfl|exact .assign rfl|exact .fieldC rfl|exact .loadW rfl (by (first|apply Ld.oneC|apply Ld.two|apply Ld.three|apply Ld.four|apply Ld.five);repeat(first|assumption|exact Row.cell (by assumption) (by first|rfl|assumption)))|exact .nilCheck rfl|exact .lenC rfl|exact .lenStrC rfl|exact .extract rfl rfl|exact .not rfl|exact .pickT rfl rfl|exact .pickF rfl rfl|exact .buildC rfl rfl|exact .indexC _ rfl rfl rfl (by omega)|exact .indexC 0 rfl rfl rfl (by omega)|exact .indexC 1 rfl rfl rfl (by omega)|exact .indexC 2 rfl rfl rfl (by omega)|exact .indexArrC _ rfl rfl rfl (by omega)|exact .indexArrC 0 rfl rfl rfl (by omega)|exact .indexArrC 1 rfl rfl rfl (by omega)|exact .indexArrC 2 rfl rfl rfl (by omega)|exact .add _ rfl rfl (wrap_i64 (by omega))|exact .sub _ rfl rfl (wrap_i64 (by omega))|exact .rem _ rfl rfl (by decide) (Int.tmod_eq_emod_of_nonneg (by omega))|exact .cmpT rfl rfl rfl (by unfold cmpP;omega)|exact .cmpF rfl rfl rfl (by unfold cmpP;omega)|fail)|fail)
    rintro e L' w12 ⟨rfl, v', rfl, r5, hE12, k12⟩
    have s12 := k12.size
    (repeat first|refine .seq ?_|refine .region ?_|refine .block ?_|refine .skip ?_|refine .ret ?_|refine .exit ?_|refine .yes rfl ?_|refine .no rfl ?_|refine .nil ?_|refine .go ?_|refine .thenExit ?_|refine .thenRet ?_|refine .inExit ?_|refine .outExit rfl ?_|refine .inNormal ?_|refine .inRet ?_|refine .off rfl rfl ?_|refine .offU rfl rfl rfl ?_|(apply W.y rfl rfl;first|exact .move rfl|exact .assign rfl|exact .fieldC rfl|exact .loadW rfl (by (first|apply Ld.oneC|apply Ld.two|apply Ld.three|apply Ld.four|apply Ld.five);repeat(first|assumption|exact Row.cell (by assumption) (by first|rfl|assumption)))|exact .nilCheck rfl|exact .lenC rfl|exact .lenStrC rfl|exact .extract rfl rfl|exact .not rfl|exact .pickT rfl rfl|exact .pickF rfl rfl|exact .buildC rfl rfl|exact .indexC _ rfl rfl rfl (by omega)|exact .indexC 0 rfl rfl rfl (by omega)|exact .indexC 1 rfl rfl rfl (by omega)|exact .indexC 2 rfl rfl rfl (by omega)|exact .indexArrC _ rfl rfl rfl (by omega)|exact .indexArrC 0 rfl rfl rfl (by omega)|exact .indexArrC 1 rfl rfl rfl (by omega)|exact .indexArrC 2 rfl rfl rfl (by omega)|exact .add _ rfl rfl (wrap_i64 (by omega))|exact .sub _ rfl rfl (wrap_i64 (by omega))|exact .rem _ rfl rfl (by decide) (Int.tmod_eq_emod_of_nonneg (by omega))|exact .cmpT rfl rfl rfl (by unfold cmpP;omega)|exact .cmpF rfl rfl rfl (by unfold cmpP;omega)|fail)|fail)
    exact E.retCell2 rfl rfl (Ld.two (r5.cell (j := 0) rfl) (r5.cell (j := 1) rfl)) rfl ⟨_, rfl, hE12.mono (fun k hk => by rcases hk with hk | hk | hk; (exact .inl hk); (exact .inr (.inl hk)); exact .inr (.inr ⟨by omega, by omega⟩)), (((k5.then kw6).then k610).far h11.keep (fun i hi => by omega)).far k12 (fun i hi => by omega)⟩
end Go.Proofs.Ytkehmehodgcdfaa
