/- FeedPlays, pieces: an addition. -/
import Derived.Test.YtkehmehodgcdfaaGv
namespace Go.Proofs.Ytkehmehodgcdfaa
open Vb Go.RowKit

set_option maxHeartbeats 3200000 in
theorem add2_piece (B F : Nat → Prop) (b bm b16 b22 last base top : Nat) (ds : List Delta) (d : Delta) (c0 c1 c2 va vd xa xd vs vi : Value) (w : World) (h : ST B w b bm last ds) (hl : last ≤ 1099511627776) (h16 : Row w b16 54 [c0, c1, c2, va, vd]) (h22 : Row w b22 32 [xa, xd])
    (hd : Deltas F w va vd d) (hF : ∀ k, F k → B k ∧ k ≠ b ∧ k ≠ bm) (hD : DW base top w xa xd d) (htop : top ≤ w.heap.size) (hB : ∀ k, B k → k < base) (h16b : b16 ≠ b ∧ b16 ≠ bm) (h22b : b22 ≠ b ∧ b22 ≠ bm) (hfew : d.1.length + d.2.length ≤ 50) :
    C Try.prog 205 (pc [1,1,1,1,1,1,1,1,0,1,0,0,1,0,0,1,1,0,1,1,1] Try.f5) (Post 205 (fun e L' w' => e = .normal ∧ L' = [(2, vs), (10, ptr b), (12, ptr bm), (15, vi)] ∧ ST (fun k => B k ∨ Fresh w w' k) w' b bm (addN last d) (addL ds d) ∧ Keep (fun k => k = b ∨ k = bm ∨ (base ≤ k ∧ k < top)) w w'))
      [(2, vs), (10, ptr b), (12, ptr bm), (15, vi), (16, ptr b16), (22, ptr b22)] w := by
  obtain ⟨h12, hle⟩ := h.n12
  obtain ⟨hf, ⟨vk, hr, hE⟩, hne, hb, hbm, hlt, hsm⟩ := h
  have hbB := hB b hb
  have hmB := hB bm hbm
  have hblt := hlt b hb
  have hmlt := hlt bm hbm
  have hD0 := hD.deltas
  obtain ⟨Xa, xca, e1, _⟩ := id hD0.1
  obtain ⟨Xd, xcd, e2, _⟩ := id hD0.2
  obtain ⟨Da, dca, e3, _⟩ := id hd.1
  obtain ⟨Dd, dcd, e4, _⟩ := id hd.2
  obtain ⟨A, c, e5, _⟩ := id hE
  subst e1; subst e2; subst e3; subst e4; subst e5
  have x0 := h22.cell (j := 0) rfl
  have x1 := h22.cell (j := 1) rfl
  (repeat first|refine .seq ?_|refine .region ?_|refine .block ?_|refine .skip ?_|refine .ret ?_|refine .exit ?_|refine .yes rfl ?_|refine .no rfl ?_|refine .nil ?_|refine .go ?_|refine .thenExit ?_|refine .thenRet ?_|refine .inExit ?_|refine .outExit rfl ?_|refine .inNormal ?_|refine .inRet ?_|refine .off rfl rfl ?_|refine .offU rfl rfl rfl ?_|(apply W.y rfl rfl;first|exact .move rfl|exact .assign rfl|exact .fieldC rfl|exact .loadW rfl (by (first|apply Ld.oneC|apply Ld.two|apply Ld.three|apply Ld.four|apply Ld.five);repeat(first|assumption|exact Row.cell (by assumption) (by first|rfl|assumption)))|exact .nilCheck rfl|exact .lenC rfl|exact .lenStrC rfl|exact .extract rfl rfl|exact .not rfl|exact .pickT rfl rfl|exact .pickF rfl rfl|exact .buildC rfl rfl|exact .indexC _ rfl rfl rfl (by omega)|exact .indexC 0 rfl rfl rfl (by omega)|exact .indexC 1 rfl rfl rfl (by omega)|exact .indexC 2 rfl rfl rfl (by omega)|exact .indexArrC _ rfl rfl rfl (by omega)|exact .indexArrC 0 rfl rfl rfl (by omega)|exact .indexArrC 1 rfl rfl rfl (by omega)|exact .indexArrC 2 rfl rfl rfl (by omega)|exact .add _ rfl rfl (wrap_i64 (by omega))|exact .sub _ rfl rfl (wrap_i64 (by omega))|exact .rem _ rfl rfl (by decide) (Int.tmod_eq_emod_of_nonneg (by omega))|exact .cmpT rfl rfl rfl (by unfold cmpP;omega)|exact .cmpF rfl rfl rfl (by unfold cmpP;omega)|fail)|fail)
  refine W.st rfl rfl (St.callC rfl (add_spec _ (fun k => base ≤ k ∧ k < top) b last ds _ _ d w hf hl hD0 (by omega))) (fun v1 w1 h1 => ?_)
  obtain ⟨rfl, k1, hf1⟩ := h1
  have s1 := k1.size
  have hr1 := hr.keep k1 (fun e => hne e.symm)
  have h161 := h16.keep k1 h16b.1
  have h221 := h22.keep k1 h22b.1
  have hE1 := hE.keep k1 (fun k hk => hk.2.1)
  have hd1 := hd.keep k1 (fun k hk => (hF k hk).2.1)
  have hD1 := hD.keep k1 (fun j a b' e => by omega)
  have q0 := hr1.cell (j := 0) rfl
  have q1 := hr1.cell (j := 1) rfl
  have y0 := h161.cell (j := 3) rfl
  have y1 := h161.cell (j := 4) rfl
  clear x0 x1 hE hd hr hf h16 h22 hD hD0
  (repeat first|refine .seq ?_|refine .region ?_|refine .block ?_|refine .skip ?_|refine .ret ?_|refine .exit ?_|refine .yes rfl ?_|refine .no rfl ?_|refine .nil ?_|refine .go ?_|refine .thenExit ?_|refine .thenRet ?_|refine .inExit ?_|refine .outExit rfl ?_|refine .inNormal ?_|refine .inRet ?_|refine .off rfl rfl ?_|refine .offU rfl rfl rfl ?_|(apply W.y rfl rfl;first|exact .move rfl|exact .assign rfl|exact .fieldC rfl|exact .loadW rfl (by (first|apply Ld.oneC|apply Ld.two|apply Ld.three|apply Ld.four|apply Ld.five);repeat(first|assumption|exact Row.cell (by assumption) (by first|rfl|assumption)))|exact .nilCheck rfl|exact .lenC rfl|exact .lenStrC rfl|exact .extract rfl rfl|exact .not rfl|exact .pickT rfl rfl|exact .pickF rfl rfl|exact .buildC rfl rfl|exact .indexC _ rfl rfl rfl (by omega)|exact .indexC 0 rfl rfl rfl (by omega)|exact .indexC 1 rfl rfl rfl (by omega)|exact .indexC 2 rfl rfl rfl (by omega)|exact .indexArrC _ rfl rfl rfl (by omega)|exact .indexArrC 0 rfl rfl rfl (by omega)|exact .indexArrC 1 rfl rfl rfl (by omega)|exact .indexArrC 2 rfl rfl rfl (by omega)|exact .add _ rfl rfl (wrap_i64 (by omega))|exact .sub _ rfl rfl (wrap_i64 (by omega))|exact .rem _ rfl rfl (by decide) (Int.tmod_eq_emod_of_nonneg (by omega))|exact .cmpT rfl rfl rfl (by unfold cmpP;omega)|exact .cmpF rfl rfl rfl (by unfold cmpP;omega)|fail)|fail)
  refine W.st rfl rfl (St.callC rfl (radd_spec _ F last _ _ _ ds d w1 hE1 hd1 (fun k hk => by have := hlt k hk.1; omega) (fun k hk => by have := hlt k (hF k hk).1; omega) hl h12 hle)) (fun v2 w2 h2 => ?_)
  obtain ⟨v', rfl, hE2, k2⟩ := h2
  have s2 := k2.size
  have hr2 := hr1.keep k2 (non_not _)
  have h162 := h161.keep k2 (non_not _)
  have h222 := h221.keep k2 (non_not _)
  have hf2 := hf1.keep k2 (fun _ _ => non_not _) (non_not _)
  have hd2 := hd1.keep k2 (fun _ _ => non_not _)
  have hD2 := hD1.keep k2 (fun _ _ _ => non_not _)
  obtain ⟨A2, cc2, e5, _⟩ := id hE2
  generalize hnn : (numbered (addN last d - (addL ds d).length + 1) (addL ds d)).length = nn at e5
  subst e5
  clear q0 q1 y0 y1 hE1 hd1 hr1 h161 h221 hf1 hD1
  (repeat first|refine .seq ?_|refine .region ?_|refine .block ?_|refine .skip ?_|refine .ret ?_|refine .exit ?_|refine .yes rfl ?_|refine .no rfl ?_|refine .nil ?_|refine .go ?_|refine .thenExit ?_|refine .thenRet ?_|refine .inExit ?_|refine .outExit rfl ?_|refine .inNormal ?_|refine .inRet ?_|refine .off rfl rfl ?_|refine .offU rfl rfl rfl ?_|(apply W.y rfl rfl;first|exact .move rfl|exact .assign rfl|exact .fieldC rfl|exact .loadW rfl (by (first|apply Ld.oneC|apply Ld.two|apply Ld.three|apply Ld.four|apply Ld.five);repeat(first|assumption|exact Row.cell (by assumption) (by first|rfl|assumption)))|exact .nilCheck rfl|exact .lenC rfl|exact .lenStrC rfl|exact .extract rfl rfl|exact .not rfl|exact .pickT rfl rfl|exact .pickF rfl rfl|exact .buildC rfl rfl|exact .indexC _ rfl rfl rfl (by omega)|exact .indexC 0 rfl rfl rfl (by omega)|exact .indexC 1 rfl rfl rfl (by omega)|exact .indexC 2 rfl rfl rfl (by omega)|exact .indexArrC _ rfl rfl rfl (by omega)|exact .indexArrC 0 rfl rfl rfl (by omega)|exact .indexArrC 1 rfl rfl rfl (by omega)|exact .indexArrC 2 rfl rfl rfl (by omega)|exact .add _ rfl rfl (wrap_i64 (by omega))|exact .sub _ rfl rfl (wrap_i64 (by omega))|exact .rem _ rfl rfl (by decide) (Int.tmod_eq_emod_of_nonneg (by omega))|exact .cmpT rfl rfl rfl (by unfold cmpP;omega)|exact .cmpF rfl rfl rfl (by unfold cmpP;omega)|fail)|fail)
  refine W.st0 rfl (St.storeC rfl rfl rfl hr2 (by simp [Value.cells]) (one2 rfl rfl)) (fun v3 w3 h3 => ?_)
  have hr3 : Row w3 bm 49 [.int .i64 (addN last d : Nat), .slice A2 nn cc2] := h3.row
  have k3 := h3.keep
  have s3 := h3.size
  have h163 := h162.keep k3 h16b.2
  have h223 := h222.keep k3 h22b.2
  have hf3 := hf2.keep k3 (fun k hk e => by rcases hk with hk | hk; exact hk.2.2 e; (have := hk.1; omega)) hne
  have hd3 := hd2.keep k3 (fun k hk => (hF k hk).2.2)
  have hD3 := hD2.keep k3 (fun j a b' e => by omega)
  have hE3 := hE2.keep k3 (fun k hk e => by
    rcases hk with hk | hk | hk
    · exact hk.2.2 e
    · exact (hF k hk).2.2 e
    · have := hk.1; omega)
  have y0 := h163.cell (j := 3) rfl
  have y1 := h163.cell (j := 4) rfl
  have x0 := h223.cell (j := 0) rfl
  have x1 := h223.cell (j := 1) rfl
  clear hE2 hd2 hr2 h162 h222 hf2 hD2 h3
  (repeat first|refine .seq ?_|refine .region ?_|refine .block ?_|refine .skip ?_|refine .ret ?_|refine .exit ?_|refine .yes rfl ?_|refine .no rfl ?_|refine .nil ?_|refine .go ?_|refine .thenExit ?_|refine .thenRet ?_|refine .inExit ?_|refine .outExit rfl ?_|refine .inNormal ?_|refine .inRet ?_|refine .off rfl rfl ?_|refine .offU rfl rfl rfl ?_|(apply W.y rfl rfl;first|exact .move rfl|exact .assign rfl|exact .fieldC rfl|exact .loadW rfl (by (first|apply Ld.oneC|apply Ld.two|apply Ld.three|apply Ld.four|apply Ld.five);repeat(first|assumption|exact Row.cell (by assumption) (by first|rfl|assumption)))|exact .nilCheck rfl|exact .lenC rfl|exact .lenStrC rfl|exact .extract rfl rfl|exact .not rfl|exact .pickT rfl rfl|exact .pickF rfl rfl|exact .buildC rfl rfl|exact .indexC _ rfl rfl rfl (by omega)|exact .indexC 0 rfl rfl rfl (by omega)|exact .indexC 1 rfl rfl rfl (by omega)|exact .indexC 2 rfl rfl rfl (by omega)|exact .indexArrC _ rfl rfl rfl (by omega)|exact .indexArrC 0 rfl rfl rfl (by omega)|exact .indexArrC 1 rfl rfl rfl (by omega)|exact .indexArrC 2 rfl rfl rfl (by omega)|exact .add _ rfl rfl (wrap_i64 (by omega))|exact .sub _ rfl rfl (wrap_i64 (by omega))|exact .rem _ rfl rfl (by decide) (Int.tmod_eq_emod_of_nonneg (by omega))|exact .cmpT rfl rfl rfl (by unfold cmpP;omega)|exact .cmpF rfl rfl rfl (by unfold cmpP;omega)|fail)|fail)
  refine W.y rfl rfl (Y.neqBoolC rfl rfl) ?_
  rw [show (!(isFull d == isFull d)) = false by simp]
  (repeat first|refine .seq ?_|refine .region ?_|refine .block ?_|refine .skip ?_|refine .ret ?_|refine .exit ?_|refine .yes rfl ?_|refine .no rfl ?_|refine .nil ?_|refine .go ?_|refine .thenExit ?_|refine .thenRet ?_|refine .inExit ?_|refine .outExit rfl ?_|refine .inNormal ?_|refine .inRet ?_|refine .off rfl rfl ?_|refine .offU rfl rfl rfl ?_|(apply W.y rfl rfl;first|exact .move rfl|exact .assign rfl|exact .fieldC rfl|exact .loadW rfl (by (first|apply Ld.oneC|apply Ld.two|apply Ld.three|apply Ld.four|apply Ld.five);repeat(first|assumption|exact Row.cell (by assumption) (by first|rfl|assumption)))|exact .nilCheck rfl|exact .lenC rfl|exact .lenStrC rfl|exact .extract rfl rfl|exact .not rfl|exact .pickT rfl rfl|exact .pickF rfl rfl|exact .buildC rfl rfl|exact .indexC _ rfl rfl rfl (by omega)|exact .indexC 0 rfl rfl rfl (by omega)|exact .indexC 1 rfl rfl rfl (by omega)|exact .indexC 2 rfl rfl rfl (by omega)|exact .indexArrC _ rfl rfl rfl (by omega)|exact .indexArrC 0 rfl rfl rfl (by omega)|exact .indexArrC 1 rfl rfl rfl (by omega)|exact .indexArrC 2 rfl rfl rfl (by omega)|exact .add _ rfl rfl (wrap_i64 (by omega))|exact .sub _ rfl rfl (wrap_i64 (by omega))|exact .rem _ rfl rfl (by decide) (Int.tmod_eq_emod_of_nonneg (by omega))|exact .cmpT rfl rfl rfl (by unfold cmpP;omega)|exact .cmpF rfl rfl rfl (by unfold cmpP;omega)|fail)|fail)
  refine W.st rfl rfl (St.callC rfl (samedelta_eq _ F _ _ _ _ d w3 hD3.deltas hd3)) (fun v4 w4 h4 => ?_)
  obtain ⟨rfl, k4⟩ := h4
  have s4 := k4.size
  have hD4 := hD3.keep k4 (fun _ _ _ => non_not _)
  have x0 := k4.cell x0 (non_not _)
  have x1 := k4.cell x1 (non_not _)
  (repeat first|refine .seq ?_|refine .region ?_|refine .block ?_|refine .skip ?_|refine .ret ?_|refine .exit ?_|refine .yes rfl ?_|refine .no rfl ?_|refine .nil ?_|refine .go ?_|refine .thenExit ?_|refine .thenRet ?_|refine .inExit ?_|refine .outExit rfl ?_|refine .inNormal ?_|refine .inRet ?_|refine .off rfl rfl ?_|refine .offU rfl rfl rfl ?_|(apply W.y rfl rfl;first|exact .move rfl|exact .assign rfl|exact .fieldC rfl|exact .loadW rfl (by (first|apply Ld.oneC|apply Ld.two|apply Ld.three|apply Ld.four|apply Ld.five);repeat(first|assumption|exact Row.cell (by assumption) (by first|rfl|assumption)))|exact .nilCheck rfl|exact .lenC rfl|exact .lenStrC rfl|exact .extract rfl rfl|exact .not rfl|exact .pickT rfl rfl|exact .pickF rfl rfl|exact .buildC rfl rfl|exact .indexC _ rfl rfl rfl (by omega)|exact .indexC 0 rfl rfl rfl (by omega)|exact .indexC 1 rfl rfl rfl (by omega)|exact .indexC 2 rfl rfl rfl (by omega)|exact .indexArrC _ rfl rfl rfl (by omega)|exact .indexArrC 0 rfl rfl rfl (by omega)|exact .indexArrC 1 rfl rfl rfl (by omega)|exact .indexArrC 2 rfl rfl rfl (by omega)|exact .add _ rfl rfl (wrap_i64 (by omega))|exact .sub _ rfl rfl (wrap_i64 (by omega))|exact .rem _ rfl rfl (by decide) (Int.tmod_eq_emod_of_nonneg (by omega))|exact .cmpT rfl rfl rfl (by unfold cmpP;omega)|exact .cmpF rfl rfl rfl (by unfold cmpP;omega)|fail)|fail)
  refine W.st rfl rfl (St.callC rfl (spoil_spec base top _ _ d w4 hD4 (by omega) (by omega) (by omega))) (fun v5 w5 k5 => ?_)
  have s5 := k5.size
  (repeat first|refine .seq ?_|refine .region ?_|refine .block ?_|refine .skip ?_|refine .ret ?_|refine .exit ?_|refine .yes rfl ?_|refine .no rfl ?_|refine .nil ?_|refine .go ?_|refine .thenExit ?_|refine .thenRet ?_|refine .inExit ?_|refine .outExit rfl ?_|refine .inNormal ?_|refine .inRet ?_|refine .off rfl rfl ?_|refine .offU rfl rfl rfl ?_|(apply W.y rfl rfl;first|exact .move rfl|exact .assign rfl|exact .fieldC rfl|exact .loadW rfl (by (first|apply Ld.oneC|apply Ld.two|apply Ld.three|apply Ld.four|apply Ld.five);repeat(first|assumption|exact Row.cell (by assumption) (by first|rfl|assumption)))|exact .nilCheck rfl|exact .lenC rfl|exact .lenStrC rfl|exact .extract rfl rfl|exact .not rfl|exact .pickT rfl rfl|exact .pickF rfl rfl|exact .buildC rfl rfl|exact .indexC _ rfl rfl rfl (by omega)|exact .indexC 0 rfl rfl rfl (by omega)|exact .indexC 1 rfl rfl rfl (by omega)|exact .indexC 2 rfl rfl rfl (by omega)|exact .indexArrC _ rfl rfl rfl (by omega)|exact .indexArrC 0 rfl rfl rfl (by omega)|exact .indexArrC 1 rfl rfl rfl (by omega)|exact .indexArrC 2 rfl rfl rfl (by omega)|exact .add _ rfl rfl (wrap_i64 (by omega))|exact .sub _ rfl rfl (wrap_i64 (by omega))|exact .rem _ rfl rfl (by decide) (Int.tmod_eq_emod_of_nonneg (by omega))|exact .cmpT rfl rfl rfl (by unfold cmpP;omega)|exact .cmpF rfl rfl rfl (by unfold cmpP;omega)|fail)|fail)
  refine E.endN _ ⟨rfl, rfl, ⟨?_, ⟨_, ((hr3.keep k4 (non_not _)).keep k5 (by omega)), ?_⟩, hne, .inl hb, .inl hbm, fun k hk => ?_, fun x hx => ?_⟩, ?_⟩ ⟨rfl, rfl, rfl, rfl, trivial⟩
  · refine FeedAt.mono (fun k hk => ?_) (fun hh => hh.2.1 rfl) ((hf3.keep k4 (fun _ _ => non_not _) (non_not _)).keep k5 (fun k hk e => ?_) (by omega))
    · rcases hk with hk | hk
      · exact ⟨.inl hk.1, hk.2⟩
      · have h1 := hk.1; have h2 := hk.2; exact ⟨.inr ⟨by omega, by omega⟩, by omega, by omega⟩
    · rcases hk with hk | hk
      · have := hB k hk.1; omega
      · have := hk.1; omega
  · refine Entries.mono (fun k hk => ?_) ((hE3.keep k4 (fun _ _ => non_not _)).keep k5 (fun k hk e => ?_))
    · rcases hk with hk | hk | hk
      · exact ⟨.inl hk.1, hk.2⟩
      · exact ⟨.inl (hF k hk).1, (hF k hk).2⟩
      · have h1 := hk.1; have h2 := hk.2; exact ⟨.inr ⟨by omega, by omega⟩, by omega, by omega⟩
    · rcases hk with hk | hk | hk
      · have := hB k hk.1; omega
      · have := hB k (hF k hk).1; omega
      · have := hk.1; omega
  · rcases hk with hk | hk
    · have := hlt k hk; omega
    · exact hk.2
  · rcases addL_mem hx with hx | hx
    · exact hsm x hx
    · rw [hx]; exact hfew
  · exact (((((k1.mono (fun k _ h => .inl h)).then k2.any).then (k3.mono (fun k _ h => .inr (.inl h)))).then k4.any).then (k5.mono (fun k _ h => .inr (.inr h))))
end Go.Proofs.Ytkehmehodgcdfaa
