/- FeedPlays, pieces: a poll. -/
import Derived.Test.YtkehmehodgcdfaaGu
namespace Go.Proofs.Ytkehmehodgcdfaa
open Vb Go.RowKit

set_option maxHeartbeats 3200000 in
theorem ask_piece (B : Nat → Prop) (b bm b16 last : Nat) (ds : List Delta) (ask : Bool) (after most : Int) (va vd vs vi : Value) (w : World) (h : ST B w b bm last ds) (hl : last ≤ 1099511627776) (h16 : Row w b16 54 [.bool ask, .int .i64 after, .int .i64 most, va, vd]) :
    C Try.prog 205 (pc [1,1,1,1,1,1,1,1,0,1,0,0,1,0,0,1,1,0,1,0] Try.f5) (Post 205 (fun e L' w' => e = .normal ∧ L' = [(2, vs), (10, ptr b), (12, ptr bm), (15, vi)] ∧ Keep Non w w')) [(2, vs), (10, ptr b), (12, ptr bm), (15, vi), (16, ptr b16)] w := by
  obtain ⟨h12, hle⟩ := h.n12
  obtain ⟨hf, ⟨vk, hr, hE⟩, hne, hb, hbm, hlt, hsm⟩ := h
  have q0 := hr.cell (j := 0) rfl
  have q1 := hr.cell (j := 1) rfl
  have p1 := h16.cell (j := 1) rfl
  have p2 := h16.cell (j := 2) rfl
  obtain ⟨A, c, rfl, _⟩ := id hE
  have hnl := numbered_length (last - ds.length + 1) ds
  (repeat first|refine .seq ?_|refine .region ?_|refine .block ?_|refine .skip ?_|refine .ret ?_|refine .exit ?_|refine .yes rfl ?_|refine .no rfl ?_|refine .nil ?_|refine .go ?_|refine .thenExit ?_|refine .thenRet ?_|refine .inExit ?_|refine .outExit rfl ?_|refine .inNormal ?_|refine .inRet ?_|refine .off rfl rfl ?_|refine .offU rfl rfl rfl ?_|(apply W.y rfl rfl;first|exact .move rfl|exact .assign rfl|exact .fieldC rfl|exact .loadW rfl (by (first|apply Ld.oneC|apply Ld.two|apply Ld.three|apply Ld.four|apply Ld.five);repeat(first|assumption|exact Row.cell (by assumption) (by first|rfl|assumption)))|exact .nilCheck rfl|exact .lenC rfl|exact .lenStrC rfl|exact .extract rfl rfl|exact .not rfl|exact .pickT rfl rfl|exact .pickF rfl rfl|exact .buildC rfl rfl|exact .indexC _ rfl rfl rfl (by omega)|exact .indexC 0 rfl rfl rfl (by omega)|exact .indexC 1 rfl rfl rfl (by omega)|exact .indexC 2 rfl rfl rfl (by omega)|exact .indexArrC _ rfl rfl rfl (by omega)|exact .indexArrC 0 rfl rfl rfl (by omega)|exact .indexArrC 1 rfl rfl rfl (by omega)|exact .indexArrC 2 rfl rfl rfl (by omega)|exact .add _ rfl rfl (wrap_i64 (by omega))|exact .sub _ rfl rfl (wrap_i64 (by omega))|exact .rem _ rfl rfl (by decide) (Int.tmod_eq_emod_of_nonneg (by omega))|exact .cmpT rfl rfl rfl (by unfold cmpP;omega)|exact .cmpF rfl rfl rfl (by unfold cmpP;omega)|fail)|fail)
  refine W.st rfl rfl (St.callC rfl (pollW_spec _ b last ds after most w hf hl)) (fun v1 w1 h1 => ?_)
  obtain ⟨vl, rfl, hW1, k1⟩ := h1
  have q0 := k1.cell q0 (non_not _)
  have q1 := k1.cell q1 (non_not _)
  have p1 := k1.cell p1 (non_not _)
  have p2 := k1.cell p2 (non_not _)
  have hE1 := hE.keep k1 (fun _ _ => non_not _)
  have s1 := k1.size
  have hT1 := hW1.t
  (repeat first|refine .seq ?_|refine .region ?_|refine .block ?_|refine .skip ?_|refine .ret ?_|refine .exit ?_|refine .yes rfl ?_|refine .no rfl ?_|refine .nil ?_|refine .go ?_|refine .thenExit ?_|refine .thenRet ?_|refine .inExit ?_|refine .outExit rfl ?_|refine .inNormal ?_|refine .inRet ?_|refine .off rfl rfl ?_|refine .offU rfl rfl rfl ?_|(apply W.y rfl rfl;first|exact .move rfl|exact .assign rfl|exact .fieldC rfl|exact .loadW rfl (by (first|apply Ld.oneC|apply Ld.two|apply Ld.three|apply Ld.four|apply Ld.five);repeat(first|assumption|exact Row.cell (by assumption) (by first|rfl|assumption)))|exact .nilCheck rfl|exact .lenC rfl|exact .lenStrC rfl|exact .extract rfl rfl|exact .not rfl|exact .pickT rfl rfl|exact .pickF rfl rfl|exact .buildC rfl rfl|exact .indexC _ rfl rfl rfl (by omega)|exact .indexC 0 rfl rfl rfl (by omega)|exact .indexC 1 rfl rfl rfl (by omega)|exact .indexC 2 rfl rfl rfl (by omega)|exact .indexArrC _ rfl rfl rfl (by omega)|exact .indexArrC 0 rfl rfl rfl (by omega)|exact .indexArrC 1 rfl rfl rfl (by omega)|exact .indexArrC 2 rfl rfl rfl (by omega)|exact .add _ rfl rfl (wrap_i64 (by omega))|exact .sub _ rfl rfl (wrap_i64 (by omega))|exact .rem _ rfl rfl (by decide) (Int.tmod_eq_emod_of_nonneg (by omega))|exact .cmpT rfl rfl rfl (by unfold cmpP;omega)|exact .cmpF rfl rfl rfl (by unfold cmpP;omega)|fail)|fail)
  refine W.st rfl rfl (St.callC rfl (rpoll_spec _ last _ _ after most w1 hE1 (fun k hk => by have := hlt k hk.1; omega) hl (by omega))) (fun v2 w2 h2 => ?_)
  obtain ⟨vl2, rfl, hE2, k2⟩ := h2
  rw [rpoll_eq] at hE2
  rw [rcode_eq, hnl]
  have hT2 := hT1.keep k2 (fun _ _ _ => non_not _)
  have s2 := k2.size
  have hpl := pollList_len last ds after most
  have hpm : ∀ e ∈ pollList last ds after most, e.2.1.length ≤ 1000000 ∧ e.2.2.length ≤ 1000000 := fun e he => by
    have := hsm e.2 (pollList_mem he)
    omega
  generalize pollList last ds after most = pl at *
  generalize pollCode last ds.length after most = code at *
  clear q0 q1 p1 p2 hE1 hW1 hE hf hr h16 hT1
  (repeat first|refine .seq ?_|refine .region ?_|refine .block ?_|refine .skip ?_|refine .ret ?_|refine .exit ?_|refine .yes rfl ?_|refine .no rfl ?_|refine .nil ?_|refine .go ?_|refine .thenExit ?_|refine .thenRet ?_|refine .inExit ?_|refine .outExit rfl ?_|refine .inNormal ?_|refine .inRet ?_|refine .off rfl rfl ?_|refine .offU rfl rfl rfl ?_|(apply W.y rfl rfl;first|exact .move rfl|exact .assign rfl|exact .fieldC rfl|exact .loadW rfl (by (first|apply Ld.oneC|apply Ld.two|apply Ld.three|apply Ld.four|apply Ld.five);repeat(first|assumption|exact Row.cell (by assumption) (by first|rfl|assumption)))|exact .nilCheck rfl|exact .lenC rfl|exact .lenStrC rfl|exact .extract rfl rfl|exact .not rfl|exact .pickT rfl rfl|exact .pickF rfl rfl|exact .buildC rfl rfl|exact .indexC _ rfl rfl rfl (by omega)|exact .indexC 0 rfl rfl rfl (by omega)|exact .indexC 1 rfl rfl rfl (by omega)|exact .indexC 2 rfl rfl rfl (by omega)|exact .indexArrC _ rfl rfl rfl (by omega)|exact .indexArrC 0 rfl rfl rfl (by omega)|exact .indexArrC 1 rfl rfl rfl (by omega)|exact .indexArrC 2 rfl rfl rfl (by omega)|exact .add _ rfl rfl (wrap_i64 (by omega))|exact .sub _ rfl rfl (wrap_i64 (by omega))|exact .rem _ rfl rfl (by decide) (Int.tmod_eq_emod_of_nonneg (by omega))|exact .cmpT rfl rfl rfl (by unfold cmpP;omega)|exact .cmpF rfl rfl rfl (by unfold cmpP;omega)|fail)|fail)
  refine W.st rfl rfl (St.callC rfl (ref_spec _ _ _ w2 (hT2.entries (by omega)) (fun k hk => by omega))) (fun v3 w3 h3 => ?_)
  obtain ⟨h3, k3⟩ := h3
  (repeat first|refine .seq ?_|refine .region ?_|refine .block ?_|refine .skip ?_|refine .ret ?_|refine .exit ?_|refine .yes rfl ?_|refine .no rfl ?_|refine .nil ?_|refine .go ?_|refine .thenExit ?_|refine .thenRet ?_|refine .inExit ?_|refine .outExit rfl ?_|refine .inNormal ?_|refine .inRet ?_|refine .off rfl rfl ?_|refine .offU rfl rfl rfl ?_|(apply W.y rfl rfl;first|exact .move rfl|exact .assign rfl|exact .fieldC rfl|exact .loadW rfl (by (first|apply Ld.oneC|apply Ld.two|apply Ld.three|apply Ld.four|apply Ld.five);repeat(first|assumption|exact Row.cell (by assumption) (by first|rfl|assumption)))|exact .nilCheck rfl|exact .lenC rfl|exact .lenStrC rfl|exact .extract rfl rfl|exact .not rfl|exact .pickT rfl rfl|exact .pickF rfl rfl|exact .buildC rfl rfl|exact .indexC _ rfl rfl rfl (by omega)|exact .indexC 0 rfl rfl rfl (by omega)|exact .indexC 1 rfl rfl rfl (by omega)|exact .indexC 2 rfl rfl rfl (by omega)|exact .indexArrC _ rfl rfl rfl (by omega)|exact .indexArrC 0 rfl rfl rfl (by omega)|exact .indexArrC 1 rfl rfl rfl (by omega)|exact .indexArrC 2 rfl rfl rfl (by omega)|exact .add _ rfl rfl (wrap_i64 (by omega))|exact .sub _ rfl rfl (wrap_i64 (by omega))|exact .rem _ rfl rfl (by decide) (Int.tmod_eq_emod_of_nonneg (by omega))|exact .cmpT rfl rfl rfl (by unfold cmpP;omega)|exact .cmpF rfl rfl rfl (by unfold cmpP;omega)|fail)|fail)
  refine W.st rfl rfl (St.callC rfl (same20_eq _ _ _ _ _ w3 h3 (hE2.keep k3 (fun _ _ => non_not _)))) (fun v4 w4 h4 => ?_)
  obtain ⟨rfl, k4⟩ := h4
  have hT4 := (hT2.keep k3 (fun _ _ _ => non_not _)).keep k4 (fun _ _ _ => non_not _)
  have s3 := k3.size
  have s4 := k4.size
  obtain ⟨Al, cl, br, lo, hi, rfl, _⟩ := id hT4
  (repeat first|refine C.use (spoil_out w.heap.size w1.heap.size _ vs (ptr b) (ptr bm) vi pl w4 hT4 (by omega) hpm (by omega)) ⟨rfl, rfl, rfl, rfl, rfl, rfl, rfl, trivial⟩ ?_|refine .seq ?_|refine .region ?_|refine .block ?_|refine .skip ?_|refine .ret ?_|refine .exit ?_|refine .yes rfl ?_|refine .no rfl ?_|refine .nil ?_|refine .go ?_|refine .thenExit ?_|refine .thenRet ?_|refine .inExit ?_|refine .outExit rfl ?_|refine .inNormal ?_|refine .inRet ?_|refine .off rfl rfl ?_|refine .offU rfl rfl rfl ?_|(apply W.y rfl rfl;first|exact .move rfl|exact .assign rfl|exact .fieldC rfl|exact .loadW rfl (by (first|apply Ld.oneC|apply Ld.two|apply Ld.three|apply Ld.four|apply Ld.five);repeat(first|assumption|exact Row.cell (by assumption) (by first|rfl|assumption)))|exact .nilCheck rfl|exact .lenC rfl|exact .lenStrC rfl|exact .extract rfl rfl|exact .not rfl|exact .pickT rfl rfl|exact .pickF rfl rfl|exact .buildC rfl rfl|exact .indexC _ rfl rfl rfl (by omega)|exact .indexC 0 rfl rfl rfl (by omega)|exact .indexC 1 rfl rfl rfl (by omega)|exact .indexC 2 rfl rfl rfl (by omega)|exact .indexArrC _ rfl rfl rfl (by omega)|exact .indexArrC 0 rfl rfl rfl (by omega)|exact .indexArrC 1 rfl rfl rfl (by omega)|exact .indexArrC 2 rfl rfl rfl (by omega)|exact .add _ rfl rfl (wrap_i64 (by omega))|exact .sub _ rfl rfl (wrap_i64 (by omega))|exact .rem _ rfl rfl (by decide) (Int.tmod_eq_emod_of_nonneg (by omega))|exact .cmpT rfl rfl rfl (by unfold cmpP;omega)|exact .cmpF rfl rfl rfl (by unfold cmpP;omega)|fail)|fail)
  rintro e L' w5 ⟨rfl, rfl, k5⟩
  (repeat first|refine .seq ?_|refine .region ?_|refine .block ?_|refine .skip ?_|refine .ret ?_|refine .exit ?_|refine .yes rfl ?_|refine .no rfl ?_|refine .nil ?_|refine .go ?_|refine .thenExit ?_|refine .thenRet ?_|refine .inExit ?_|refine .outExit rfl ?_|refine .inNormal ?_|refine .inRet ?_|refine .off rfl rfl ?_|refine .offU rfl rfl rfl ?_|(apply W.y rfl rfl;first|exact .move rfl|exact .assign rfl|exact .fieldC rfl|exact .loadW rfl (by (first|apply Ld.oneC|apply Ld.two|apply Ld.three|apply Ld.four|apply Ld.five);repeat(first|assumption|exact Row.cell (by assumption) (by first|rfl|assumption)))|exact .nilCheck rfl|exact .lenC rfl|exact .lenStrC rfl|exact .extract rfl rfl|exact .not rfl|exact .pickT rfl rfl|exact .pickF rfl rfl|exact .buildC rfl rfl|exact .indexC _ rfl rfl rfl (by omega)|exact .indexC 0 rfl rfl rfl (by omega)|exact .indexC 1 rfl rfl rfl (by omega)|exact .indexC 2 rfl rfl rfl (by omega)|exact .indexArrC _ rfl rfl rfl (by omega)|exact .indexArrC 0 rfl rfl rfl (by omega)|exact .indexArrC 1 rfl rfl rfl (by omega)|exact .indexArrC 2 rfl rfl rfl (by omega)|exact .add _ rfl rfl (wrap_i64 (by omega))|exact .sub _ rfl rfl (wrap_i64 (by omega))|exact .rem _ rfl rfl (by decide) (Int.tmod_eq_emod_of_nonneg (by omega))|exact .cmpT rfl rfl rfl (by unfold cmpP;omega)|exact .cmpF rfl rfl rfl (by unfold cmpP;omega)|fail)|fail)
  exact E.endN _ ⟨rfl, rfl, (((k1.then k2).then k3).then k4).far k5 (fun i hi => by omega)⟩ ⟨rfl, rfl, rfl, rfl, trivial⟩
end Go.Proofs.Ytkehmehodgcdfaa
