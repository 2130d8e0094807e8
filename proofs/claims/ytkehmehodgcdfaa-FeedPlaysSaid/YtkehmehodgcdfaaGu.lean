/- FeedPlays, pieces: the checks behind each call. -/
import Derived.Test.YtkehmehodgcdfaaGt
namespace Go.Proofs.Ytkehmehodgcdfaa
open Vb Go.RowKit

abbrev ptr (b : Nat) : Value := .pointer (some ⟨b, 0, none⟩)
set_option maxHeartbeats 3200000 in
theorem check_piece (B : Nat → Prop) (b bm last : Nat) (ds : List Delta) (vs vi : Value) (w : World) (h : ST B w b bm last ds) (hl : last ≤ 1099511627776) :
    C Try.prog 205 (pc [1,1,1,1,1,1,1,1,0,1,0,0,1,0,0,1,1,1] Try.f5) (Post 205 (fun e L' w' => e = .normal ∧ L' = [(2, vs), (10, ptr b), (12, ptr bm), (15, vi)] ∧ Keep Non w w')) [(2, vs), (10, ptr b), (12, ptr bm), (15, vi)] w := by
  obtain ⟨h12, hle⟩ := h.n12
  obtain ⟨hf, ⟨vk, hr, hE⟩, hne, hb, hbm, hlt, _⟩ := h
  have q0 := hr.cell (j := 0) rfl
  have q1 := hr.cell (j := 1) rfl
  obtain ⟨A, c, rfl, _⟩ := id hE
  have hnl := numbered_length (last - ds.length + 1) ds
  (repeat first|refine .seq ?_|refine .region ?_|refine .block ?_|refine .skip ?_|refine .ret ?_|refine .exit ?_|refine .yes rfl ?_|refine .no rfl ?_|refine .nil ?_|refine .go ?_|refine .thenExit ?_|refine .thenRet ?_|refine .inExit ?_|refine .outExit rfl ?_|refine .inNormal ?_|refine .inRet ?_|refine .off rfl rfl ?_|refine .offU rfl rfl rfl ?_|(apply W.y rfl rfl;first|exact .move rfl|exact .assign rfl|exact .fieldC rfl|exact .loadW rfl (by (first|apply Ld.oneC|apply Ld.two|apply Ld.three|apply Ld.four|apply Ld.five);repeat(first|assumption|exact Row.cell (by assumption) (by first|rfl|assumption)))|exact .nilCheck rfl|exact .lenC rfl|exact .lenStrC rfl|exact .extract rfl rfl|exact .not rfl|exact .pickT rfl rfl|exact .pickF rfl rfl|exact .buildC rfl rfl|exact .indexC _ rfl rfl rfl (by omega)|exact .indexC 0 rfl rfl rfl (by omega)|exact .indexC 1 rfl rfl rfl (by omega)|exact .indexC 2 rfl rfl rfl (by omega)|exact .indexArrC _ rfl rfl rfl (by omega)|exact .indexArrC 0 rfl rfl rfl (by omega)|exact .indexArrC 1 rfl rfl rfl (by omega)|exact .indexArrC 2 rfl rfl rfl (by omega)|exact .add _ rfl rfl (wrap_i64 (by omega))|exact .sub _ rfl rfl (wrap_i64 (by omega))|exact .rem _ rfl rfl (by decide) (Int.tmod_eq_emod_of_nonneg (by omega))|exact .cmpT rfl rfl rfl (by unfold cmpP;omega)|exact .cmpF rfl rfl rfl (by unfold cmpP;omega)|fail)|fail)
  refine C.draw 21 (fun wq => Keep Non w wq) [] mixed rfl (fun w1 kw1 ew1 => ?_)
  ((refine .take 0 rfl (by kernel_rfl) rfl rfl (.move rfl) ?_); (refine .take 2 rfl (by kernel_rfl) rfl rfl (.fieldC rfl) ?_); (refine .read 3 rfl (by kernel_rfl) rfl rfl (by assumption) (.load rfl (fun w hw => (by (first|apply Ld.oneC|apply Ld.two|apply Ld.three|apply Ld.four|apply Ld.five);repeat(apply Keep.cell hw;(first|assumption|exact Row.cell (by assumption) (by first|rfl|assumption));first|exact non_not _|assumption|(intro e;omega)|(simp;omega))))) ?_))
  have k01 : Keep Non w w1 := kw1
  have hf1 := hf.keep kw1 (fun _ _ => non_not _) (non_not _)
  have hE1 := hE.keep kw1 (fun _ _ => non_not _)
  refine D.one 1 rfl (by kernel_rfl) rfl rfl (St.callC rfl (last_spec _ b last ds w1 hf1)) (fun v2 w2 h2 => ⟨fun _ hS => hS.then h2.2, ?_⟩)
  obtain ⟨rfl, k2⟩ := h2
  have k02 : Keep Non w w2 := k01.then k2
  ((first|refine .take 4 rfl (by kernel_rfl) rfl rfl (.cmpT rfl rfl rfl (by unfold cmpP;omega)) ?_|refine .take 4 rfl (by kernel_rfl) rfl rfl (.cmpF rfl rfl rfl (by unfold cmpP;omega)) ?_); (refine .take 5 rfl (by kernel_rfl) rfl rfl (.move rfl) ?_); (first|refine .off 6 rfl (by kernel_rfl) rfl rfl ?_|refine .offU 6 rfl (by kernel_rfl) rfl rfl rfl ?_|refine .take 6 rfl (by kernel_rfl) rfl rfl (.move rfl) ?_); (first|refine .off 8 rfl (by kernel_rfl) rfl rfl ?_|refine .offU 8 rfl (by kernel_rfl) rfl rfl rfl ?_|refine .read 8 rfl (by kernel_rfl) rfl rfl (by assumption) (.load rfl (fun w hw => (by (first|apply Ld.oneC|apply Ld.two|apply Ld.three|apply Ld.four|apply Ld.five);repeat(apply Keep.cell hw;(first|assumption|exact Row.cell (by assumption) (by first|rfl|assumption));first|exact non_not _|assumption|(intro e;omega)|(simp;omega))))) ?_))
  have hf2 := hf1.keep k2 (fun _ _ => non_not _) (non_not _)
  have hE2 := hE1.keep k2 (fun _ _ => non_not _)
  refine D.one 7 rfl (by kernel_rfl) rfl rfl (St.callC rfl (first_spec _ b last ds w2 hf2 hl)) (fun v3 w3 h3 => ⟨fun _ hS => hS.then h3.2, ?_⟩)
  obtain ⟨rfl, k3⟩ := h3
  have k03 : Keep Non w w3 := k02.then k3
  skip
  have hf3 := hf2.keep k3 (fun _ _ => non_not _) (non_not _)
  have hE3 := hE2.keep k3 (fun _ _ => non_not _)
  refine D.one 9 rfl (by kernel_rfl) rfl rfl (St.callC rfl (rfirst_spec _ last _ _ w3 hE3 hl)) (fun v4 w4 h4 => ⟨fun _ hS => hS.then h4.2, ?_⟩)
  obtain ⟨rfl, k4⟩ := h4
  rw [hnl]
  have k04 : Keep Non w w4 := k03.then k4
  ((first|refine .off 10 rfl (by kernel_rfl) rfl rfl ?_|refine .offU 10 rfl (by kernel_rfl) rfl rfl rfl ?_|refine .take 10 rfl (by kernel_rfl) rfl rfl (.cmpT rfl rfl rfl (by unfold cmpP;omega)) ?_|refine .take 10 rfl (by kernel_rfl) rfl rfl (.cmpF rfl rfl rfl (by unfold cmpP;omega)) ?_); (first|refine .take 11 rfl (by kernel_rfl) rfl rfl (.pickT rfl rfl) ?_|refine .take 11 rfl (by kernel_rfl) rfl rfl (.pickF rfl rfl) ?_); (refine .take 12 rfl (by kernel_rfl) rfl rfl (.move rfl) ?_); (first|refine .off 13 rfl (by kernel_rfl) rfl rfl ?_|refine .offU 13 rfl (by kernel_rfl) rfl rfl rfl ?_|refine .take 13 rfl (by kernel_rfl) rfl rfl (.move rfl) ?_); (first|refine .off 16 rfl (by kernel_rfl) rfl rfl ?_|refine .offU 16 rfl (by kernel_rfl) rfl rfl rfl ?_|refine .take 16 rfl (by kernel_rfl) rfl rfl (.fieldC rfl) ?_); (first|refine .off 17 rfl (by kernel_rfl) rfl rfl ?_|refine .offU 17 rfl (by kernel_rfl) rfl rfl rfl ?_|refine .read 17 rfl (by kernel_rfl) rfl rfl (by assumption) (.load rfl (fun w hw => (by (first|apply Ld.oneC|apply Ld.two|apply Ld.three|apply Ld.four|apply Ld.five);repeat(apply Keep.cell hw;(first|assumption|exact Row.cell (by assumption) (by first|rfl|assumption));first|exact non_not _|assumption|(intro e;omega)|(simp;omega))))) ?_))
  have hf4 := hf3.keep k4 (fun _ _ => non_not _) (non_not _)
  have hE4 := hE3.keep k4 (fun _ _ => non_not _)
  refine D.one 14 rfl (by kernel_rfl) rfl rfl (St.callC rfl (kept_spec _ b last ds w4 hf4 hl)) (fun v5 w5 h5 => ⟨fun _ hS => hS.then h5.2, ?_⟩)
  obtain ⟨h5, k5⟩ := h5
  have k05 : Keep Non w w5 := k04.then k5
  have s5 := k5.size
  skip
  refine D.one 15 rfl (by kernel_rfl) rfl rfl (St.callC rfl (ref_spec _ _ _ w5 h5 (fun k hk => hk.2))) (fun v6 w6 h6 => ⟨fun _ hS => hS.then h6.2, ?_⟩)
  obtain ⟨h6, k6⟩ := h6
  have k06 : Keep Non w w6 := k05.then k6
  skip
  have hE6 := hE.keep k06 (fun _ _ => non_not _)
  refine D.one 18 rfl (by kernel_rfl) rfl rfl (St.callC rfl (same20_eq _ _ _ _ _ w6 h6 hE6)) (fun v7 w7 h7 => ⟨fun _ hS => hS.then h7.2, ?_⟩)
  obtain ⟨rfl, k7⟩ := h7
  have k07 : Keep Non w w7 := k06.then k7
  ((first|refine .off 19 rfl (by kernel_rfl) rfl rfl ?_|refine .offU 19 rfl (by kernel_rfl) rfl rfl rfl ?_|refine .take 19 rfl (by kernel_rfl) rfl rfl (.not rfl) ?_); (first|refine .take 20 rfl (by kernel_rfl) rfl rfl (.pickT rfl rfl) ?_|refine .take 20 rfl (by kernel_rfl) rfl rfl (.pickF rfl rfl) ?_))
  refine D.fin (by kernel_rfl) ?_
  (repeat first|refine .seq ?_|refine .region ?_|refine .block ?_|refine .skip ?_|refine .ret ?_|refine .exit ?_|refine .yes rfl ?_|refine .no rfl ?_|refine .nil ?_|refine .go ?_|refine .thenExit ?_|refine .thenRet ?_|refine .inExit ?_|refine .outExit rfl ?_|refine .inNormal ?_|refine .inRet ?_|refine .off rfl rfl ?_|refine .offU rfl rfl rfl ?_|(apply W.y rfl rfl;first|exact .move rfl|exact .assign rfl|exact .fieldC rfl|exact .loadW rfl (by (first|apply Ld.oneC|apply Ld.two|apply Ld.three|apply Ld.four|apply Ld.five);repeat(first|assumption|exact Row.cell (by assumption) (by first|rfl|assumption)))|exact .nilCheck rfl|exact .lenC rfl|exact .lenStrC rfl|exact .extract rfl rfl|exact .not rfl|exact .pickT rfl rfl|exact .pickF rfl rfl|exact .buildC rfl rfl|exact .indexC _ rfl rfl rfl (by omega)|exact .indexC 0 rfl rfl rfl (by omega)|exact .indexC 1 rfl rfl rfl (by omega)|exact .indexC 2 rfl rfl rfl (by omega)|exact .indexArrC _ rfl rfl rfl (by omega)|exact .indexArrC 0 rfl rfl rfl (by omega)|exact .indexArrC 1 rfl rfl rfl (by omega)|exact .indexArrC 2 rfl rfl rfl (by omega)|exact .add _ rfl rfl (wrap_i64 (by omega))|exact .sub _ rfl rfl (wrap_i64 (by omega))|exact .rem _ rfl rfl (by decide) (Int.tmod_eq_emod_of_nonneg (by omega))|exact .cmpT rfl rfl rfl (by unfold cmpP;omega)|exact .cmpF rfl rfl rfl (by unfold cmpP;omega)|fail)|fail)
  exact E.endN _ ⟨rfl, rfl, k07⟩ ⟨rfl, rfl, rfl, rfl, trivial⟩
end Go.Proofs.Ytkehmehodgcdfaa
