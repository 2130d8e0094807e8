/- FeedPlays, pieces: an addition, whole. -/
import Derived.Test.YtkehmehodgcdfaaGw
namespace Go.Proofs.Ytkehmehodgcdfaa
open Vb Go.RowKit

set_option maxHeartbeats 3200000 in
theorem add_piece (B F : Nat → Prop) (b bm b16 last : Nat) (ds : List Delta) (d : Delta) (c0 c1 c2 va vd vs vi : Value) (w : World) (h : ST B w b bm last ds) (hl : last ≤ 1099511627776) (h16 : Row w b16 54 [c0, c1, c2, va, vd])
    (hd : Deltas F w va vd d) (hF : ∀ k, F k → B k ∧ k ≠ b ∧ k ≠ bm) (h16b : ¬ B b16) (hfew : d.1.length + d.2.length ≤ 50) :
    C Try.prog 205 (pc [1,1,1,1,1,1,1,1,0,1,0,0,1,0,0,1,1,0,1,1] Try.f5) (Post 205 (fun e L' w' => e = .normal ∧ L' = [(2, vs), (10, ptr b), (12, ptr bm), (15, vi)] ∧ (∃ B', ST B' w' b bm (addN last d) (addL ds d) ∧ ∀ k, B k → B' k) ∧ Keep (fun k => k = b ∨ k = bm) w w'))
      [(2, vs), (10, ptr b), (12, ptr bm), (15, vi), (16, ptr b16)] w := by
  obtain ⟨Da, dca, e3, _⟩ := id hd.1
  obtain ⟨Dd, dcd, e4, _⟩ := id hd.2
  subst e3; subst e4
  have y0 := h16.cell (j := 3) rfl
  have y1 := h16.cell (j := 4) rfl
  have hlt := h.lt
  have hbn : b16 ≠ b := fun e => h16b (e ▸ h.inb)
  have hmn : b16 ≠ bm := fun e => h16b (e ▸ h.inm)
  have hblt := hlt b h.inb
  have hmlt := hlt bm h.inm
  (repeat first|refine .seq ?_|refine .region ?_|refine .block ?_|refine .skip ?_|refine .ret ?_|refine .exit ?_|refine .yes rfl ?_|refine .no rfl ?_|refine .nil ?_|refine .go ?_|refine .thenExit ?_|refine .thenRet ?_|refine .inExit ?_|refine .outExit rfl ?_|refine .inNormal ?_|refine .inRet ?_|refine .off rfl rfl ?_|refine .offU rfl rfl rfl ?_|(apply W.y rfl rfl;first|exact .move rfl|exact .assign rfl|exact .fieldC rfl|exact .loadW rfl (by (first|apply Ld.oneC|apply Ld.two|apply Ld.three|apply Ld.four|apply Ld.five);repeat(first|assumption|exact Row.cell (by assumption) (by first|rfl|assumption)))|exact .nilCheck rfl|exact .lenC rfl|exact .lenStrC rfl|exact .extract rfl rfl|exact .not rfl|exact .pickT rfl rfl|exact .pickF rfl rfl|exact .buildC rfl rfl|exact .indexC _ rfl rfl rfl (by omega)|exact .indexC 0 rfl rfl rfl (by omega)|exact .indexC 1 rfl rfl rfl (by omega)|exact .indexC 2 rfl rfl rfl (by omega)|exact .indexArrC _ rfl rfl rfl (by omega)|exact .indexArrC 0 rfl rfl rfl (by omega)|exact .indexArrC 1 rfl rfl rfl (by omega)|exact .indexArrC 2 rfl rfl rfl (by omega)|exact .add _ rfl rfl (wrap_i64 (by omega))|exact .sub _ rfl rfl (wrap_i64 (by omega))|exact .rem _ rfl rfl (by decide) (Int.tmod_eq_emod_of_nonneg (by omega))|exact .cmpT rfl rfl rfl (by unfold cmpP;omega)|exact .cmpF rfl rfl rfl (by unfold cmpP;omega)|fail)|fail)
  refine C.draw 11 (fun wq => Keep Non w wq) [10] mixed rfl (fun w1 kw1 ew1 => ?_)
  ((refine .take 0 rfl (by kernel_rfl) rfl rfl (.fieldC rfl) ?_); (refine .take 1 rfl (by kernel_rfl) rfl rfl (.fieldC rfl) ?_); (refine .read 2 rfl (by kernel_rfl) rfl rfl (by assumption) (.load rfl (fun w hw => (by (first|apply Ld.oneC|apply Ld.two|apply Ld.three|apply Ld.four|apply Ld.five);repeat(apply Keep.cell hw;(first|assumption|exact Row.cell (by assumption) (by first|rfl|assumption));first|exact non_not _|assumption|(intro e;omega)|(simp;omega))))) ?_); (refine .take 4 rfl (by kernel_rfl) rfl rfl (.fieldC rfl) ?_); (refine .take 5 rfl (by kernel_rfl) rfl rfl (.fieldC rfl) ?_); (refine .read 6 rfl (by kernel_rfl) rfl rfl (by assumption) (.load rfl (fun w hw => (by (first|apply Ld.oneC|apply Ld.two|apply Ld.three|apply Ld.four|apply Ld.five);repeat(apply Keep.cell hw;(first|assumption|exact Row.cell (by assumption) (by first|rfl|assumption));first|exact non_not _|assumption|(intro e;omega)|(simp;omega))))) ?_))
  have h1 := h.keep kw1 (fun _ _ => non_not _)
  have h161 := h16.keep kw1 (non_not _)
  have hd1 := hd.keep kw1 (fun _ _ => non_not _)
  have s1 := kw1.size
  clear y0 y1 h16 hd h
  refine D.any [3, 9] (by kernel_rfl) (Any.cons rfl rfl rfl (St.callC rfl (ownL_spec F _ d.1 w1 hd1.1 (by omega))) (fun v2 w2 h2 => ⟨fun _ hS => hS.then h2.2, ?_⟩)
    (Any.cons rfl rfl rfl St.allocC (fun v2 w2 h2 => ⟨fun _ hS => hS.then (by obtain ⟨_, _, hN⟩ := h2; exact hN.keep), ?_⟩) Any.nil))
  · obtain ⟨hT2, k2⟩ := h2
    have s2 := k2.size
    refine D.any [7, 9] (by kernel_rfl) (Any.cons rfl rfl rfl (St.callC rfl (ownL_spec F _ d.2 w2 (hd1.2.keep k2 (fun _ _ => non_not _)) (by omega))) (fun v3 w3 h3 => ⟨fun _ hS => hS.then h3.2, ?_⟩)
      (Any.cons rfl rfl rfl St.allocC (fun v3 w3 h3 => ⟨fun _ hS => hS.then (by obtain ⟨_, _, hN⟩ := h3; exact hN.keep), ?_⟩) Any.nil))
    · skip
      
      
      obtain ⟨hT3, k3⟩ := h3
      have s3 := k3.size
      have hTa := hT2.keep k3 (fun _ _ _ => non_not _)
      have hTd := hT3
      obtain ⟨Xa, xca, e1, _⟩ := id hTa.intss
      obtain ⟨Xd, xcd, e2, _⟩ := id hTd.intss
      subst e1; subst e2
      ((refine .take 8 rfl (by kernel_rfl) rfl rfl (.buildC rfl rfl) ?_))
      refine D.one 9 rfl (by kernel_rfl) rfl rfl St.allocC (fun v4 w4 h4 => ⟨fun _ hS => hS.then (by obtain ⟨_, _, hN⟩ := h4; exact hN.keep), ?_⟩)
      obtain ⟨b22, rfl, hN⟩ := h4
      have a4 := hN.at_
      have r22 := hN.row
      have k14 := (k2.then k3).then hN.keep
      have hTa := hTa.keep hN.keep (fun _ _ _ => non_not _)
      have hTd := hTd.keep hN.keep (fun _ _ _ => non_not _)
      have s4' := hN.size
      have nb1 : ∀ j, w1.heap.size ≤ j → j < w2.heap.size → j ≠ b22 := fun j _ _ => by omega
      have nb2 : ∀ j, w2.heap.size ≤ j → j < w3.heap.size → j ≠ b22 := fun j _ _ => by omega
      have hq1 : w1.heap.size ≤ w1.heap.size := Nat.le_refl _
      have hq2 : w2.heap.size ≤ w2.heap.size := Nat.le_refl _
      have hq3 : ∀ {n}, w4.heap.size ≤ n → w3.heap.size ≤ n := fun h => by omega
      have r22 : Row w4 b22 32 [.slice none 0 0, .slice none 0 0] := r22
      have s4 := k14.size
      skip
      refine D.one0 10 rfl (by kernel_rfl) rfl (St.storeC rfl rfl rfl r22 (by simp [Value.cells]) (one2 rfl rfl)) (fun v5 w5 h5 => ⟨fun h => absurd h (by decide), ?_⟩)
      refine D.fin (by kernel_rfl) ?_
      have s5 := h5.size
      have k5 := h5.keep
      have r5 : Row w5 b22 32 [.slice Xa d.1.length xca, .slice Xd d.2.length xcd] := h5.row
      have hTa := hTa.keep k5 (fun j a b' e => nb1 j a b' e)
      have hTd := hTd.keep k5 (fun j a b' e => nb2 j a b' e)
      have hD : DW w1.heap.size w5.heap.size w5 _ _ d := ⟨_, by omega, by omega, hTa.wide hq1 hq2, hTd.wide (Nat.le_refl _) (hq3 (by omega))⟩
      have h5' := (h1.keep k14 (fun _ _ => non_not _)).keep k5 (fun k hk e => by have := hlt k hk; omega)
      have hd5 := (hd1.keep k14 (fun _ _ => non_not _)).keep k5 (fun k hk e => by have := hlt k (hF k hk).1; omega)
      have h165 := (h161.keep k14 (non_not _)).keep k5 (by have := h161.lt; omega)
      (repeat first|refine C.use (add2_piece B F b bm b16 b22 last w1.heap.size w5.heap.size ds d c0 c1 c2 _ _ _ _ vs vi w5 h5' hl h165 r5 hd5 hF hD (Nat.le_refl _) (fun k hk => by have := hlt k hk; omega) ⟨hbn, hmn⟩ ⟨by omega, by omega⟩ hfew) ⟨rfl, rfl, rfl, rfl, rfl, rfl, trivial⟩ ?_|refine .seq ?_|refine .region ?_|refine .block ?_|refine .skip ?_|refine .ret ?_|refine .exit ?_|refine .yes rfl ?_|refine .no rfl ?_|refine .nil ?_|refine .go ?_|refine .thenExit ?_|refine .thenRet ?_|refine .inExit ?_|refine .outExit rfl ?_|refine .inNormal ?_|refine .inRet ?_|refine .off rfl rfl ?_|refine .offU rfl rfl rfl ?_|(apply W.y rfl rfl;first|exact .move rfl|exact .assign rfl|exact .fieldC rfl|exact .loadW rfl (by (first|apply Ld.oneC|apply Ld.two|apply Ld.three|apply Ld.four|apply Ld.five);repeat(first|assumption|exact Row.cell (by assumption) (by first|rfl|assumption)))|exact .nilCheck rfl|exact .lenC rfl|exact .lenStrC rfl|exact .extract rfl rfl|exact .not rfl|exact .pickT rfl rfl|exact .pickF rfl rfl|exact .buildC rfl rfl|exact .indexC _ rfl rfl rfl (by omega)|exact .indexC 0 rfl rfl rfl (by omega)|exact .indexC 1 rfl rfl rfl (by omega)|exact .indexC 2 rfl rfl rfl (by omega)|exact .indexArrC _ rfl rfl rfl (by omega)|exact .indexArrC 0 rfl rfl rfl (by omega)|exact .indexArrC 1 rfl rfl rfl (by omega)|exact .indexArrC 2 rfl rfl rfl (by omega)|exact .add _ rfl rfl (wrap_i64 (by omega))|exact .sub _ rfl rfl (wrap_i64 (by omega))|exact .rem _ rfl rfl (by decide) (Int.tmod_eq_emod_of_nonneg (by omega))|exact .cmpT rfl rfl rfl (by unfold cmpP;omega)|exact .cmpF rfl rfl rfl (by unfold cmpP;omega)|fail)|fail)
      rintro e L' w6 ⟨rfl, rfl, h6, k6⟩
      exact E.endN _ ⟨rfl, rfl, ⟨_, h6, fun k hk => .inl hk⟩, ((kw1.then k14).far k5 (fun i hi => by omega)).trans k6 (fun i hi hs => by
        rcases hs with hs | hs | hs | hs
        · exact hs.elim
        · exact .inl hs
        · exact .inr hs
        · omega)⟩ ⟨rfl, rfl, rfl, rfl, trivial⟩
    · skip
      
      
      obtain ⟨b22, rfl, hN⟩ := h3
      have a4 := hN.at_
      have s3 := hN.size
      have k13 := k2.then hN.keep
      refine D.one 7 rfl (by kernel_rfl) rfl rfl (St.callC rfl (ownL_spec F _ d.2 w3 (hd1.2.keep k13 (fun _ _ => non_not _)) (by omega))) (fun v4 w4 h4 => ⟨fun _ hS => hS.then h4.2, ?_⟩)
      obtain ⟨hT4, k4⟩ := h4
      have r22 := hN.row.keep k4 (non_not _)
      have k14 := k13.then k4
      have hTa := (hT2.keep hN.keep (fun _ _ _ => non_not _)).keep k4 (fun _ _ _ => non_not _)
      have hTd := hT4
      have s34 := k4.size
      obtain ⟨Xa, xca, e1, _⟩ := id hTa.intss
      obtain ⟨Xd, xcd, e2, _⟩ := id hTd.intss
      subst e1; subst e2
      have nb1 : ∀ j, w1.heap.size ≤ j → j < w2.heap.size → j ≠ b22 := fun j _ _ => by omega
      have nb2 : ∀ j, w3.heap.size ≤ j → j < w4.heap.size → j ≠ b22 := fun j _ _ => by omega
      have hq1 : w1.heap.size ≤ w1.heap.size := Nat.le_refl _
      have hq2 : w2.heap.size ≤ w3.heap.size := by omega
      have hq3 : ∀ {n}, w4.heap.size ≤ n → w4.heap.size ≤ n := fun h => h
      have r22 : Row w4 b22 32 [.slice none 0 0, .slice none 0 0] := r22
      have s4 := k14.size
      ((refine .take 8 rfl (by kernel_rfl) rfl rfl (.buildC rfl rfl) ?_))
      refine D.one0 10 rfl (by kernel_rfl) rfl (St.storeC rfl rfl rfl r22 (by simp [Value.cells]) (one2 rfl rfl)) (fun v5 w5 h5 => ⟨fun h => absurd h (by decide), ?_⟩)
      refine D.fin (by kernel_rfl) ?_
      have s5 := h5.size
      have k5 := h5.keep
      have r5 : Row w5 b22 32 [.slice Xa d.1.length xca, .slice Xd d.2.length xcd] := h5.row
      have hTa := hTa.keep k5 (fun j a b' e => nb1 j a b' e)
      have hTd := hTd.keep k5 (fun j a b' e => nb2 j a b' e)
      have hD : DW w1.heap.size w5.heap.size w5 _ _ d := ⟨_, by omega, by omega, hTa.wide hq1 hq2, hTd.wide (Nat.le_refl _) (hq3 (by omega))⟩
      have h5' := (h1.keep k14 (fun _ _ => non_not _)).keep k5 (fun k hk e => by have := hlt k hk; omega)
      have hd5 := (hd1.keep k14 (fun _ _ => non_not _)).keep k5 (fun k hk e => by have := hlt k (hF k hk).1; omega)
      have h165 := (h161.keep k14 (non_not _)).keep k5 (by have := h161.lt; omega)
      (repeat first|refine C.use (add2_piece B F b bm b16 b22 last w1.heap.size w5.heap.size ds d c0 c1 c2 _ _ _ _ vs vi w5 h5' hl h165 r5 hd5 hF hD (Nat.le_refl _) (fun k hk => by have := hlt k hk; omega) ⟨hbn, hmn⟩ ⟨by omega, by omega⟩ hfew) ⟨rfl, rfl, rfl, rfl, rfl, rfl, trivial⟩ ?_|refine .seq ?_|refine .region ?_|refine .block ?_|refine .skip ?_|refine .ret ?_|refine .exit ?_|refine .yes rfl ?_|refine .no rfl ?_|refine .nil ?_|refine .go ?_|refine .thenExit ?_|refine .thenRet ?_|refine .inExit ?_|refine .outExit rfl ?_|refine .inNormal ?_|refine .inRet ?_|refine .off rfl rfl ?_|refine .offU rfl rfl rfl ?_|(apply W.y rfl rfl;first|exact .move rfl|exact .assign rfl|exact .fieldC rfl|exact .loadW rfl (by (first|apply Ld.oneC|apply Ld.two|apply Ld.three|apply Ld.four|apply Ld.five);repeat(first|assumption|exact Row.cell (by assumption) (by first|rfl|assumption)))|exact .nilCheck rfl|exact .lenC rfl|exact .lenStrC rfl|exact .extract rfl rfl|exact .not rfl|exact .pickT rfl rfl|exact .pickF rfl rfl|exact .buildC rfl rfl|exact .indexC _ rfl rfl rfl (by omega)|exact .indexC 0 rfl rfl rfl (by omega)|exact .indexC 1 rfl rfl rfl (by omega)|exact .indexC 2 rfl rfl rfl (by omega)|exact .indexArrC _ rfl rfl rfl (by omega)|exact .indexArrC 0 rfl rfl rfl (by omega)|exact .indexArrC 1 rfl rfl rfl (by omega)|exact .indexArrC 2 rfl rfl rfl (by omega)|exact .add _ rfl rfl (wrap_i64 (by omega))|exact .sub _ rfl rfl (wrap_i64 (by omega))|exact .rem _ rfl rfl (by decide) (Int.tmod_eq_emod_of_nonneg (by omega))|exact .cmpT rfl rfl rfl (by unfold cmpP;omega)|exact .cmpF rfl rfl rfl (by unfold cmpP;omega)|fail)|fail)
      rintro e L' w6 ⟨rfl, rfl, h6, k6⟩
      exact E.endN _ ⟨rfl, rfl, ⟨_, h6, fun k hk => .inl hk⟩, ((kw1.then k14).far k5 (fun i hi => by omega)).trans k6 (fun i hi hs => by
        rcases hs with hs | hs | hs | hs
        · exact hs.elim
        · exact .inl hs
        · exact .inr hs
        · omega)⟩ ⟨rfl, rfl, rfl, rfl, trivial⟩
  · skip
    
    obtain ⟨b22, rfl, hN⟩ := h2
    have a4 := hN.at_
    have s2 := hN.size
    refine D.one 3 rfl (by kernel_rfl) rfl rfl (St.callC rfl (ownL_spec F _ d.1 w2 (hd1.1.keep hN.keep (fun _ _ => non_not _)) (by omega))) (fun v3 w3 h3 => ⟨fun _ hS => hS.then h3.2, ?_⟩)
    obtain ⟨hT3, k3⟩ := h3
    have s3 := k3.size
    have k13 := hN.keep.then k3
    refine D.one 7 rfl (by kernel_rfl) rfl rfl (St.callC rfl (ownL_spec F _ d.2 w3 (hd1.2.keep k13 (fun _ _ => non_not _)) (by omega))) (fun v4 w4 h4 => ⟨fun _ hS => hS.then h4.2, ?_⟩)
    obtain ⟨hT4, k4⟩ := h4
    have r22 := (hN.row.keep k3 (non_not _)).keep k4 (non_not _)
    have k14 := k13.then k4
    have hTa := hT3.keep k4 (fun _ _ _ => non_not _)
    have hTd := hT4
    have s34 := k4.size
    obtain ⟨Xa, xca, e1, _⟩ := id hTa.intss
    obtain ⟨Xd, xcd, e2, _⟩ := id hTd.intss
    subst e1; subst e2
    have nb1 : ∀ j, w2.heap.size ≤ j → j < w3.heap.size → j ≠ b22 := fun j _ _ => by omega
    have nb2 : ∀ j, w3.heap.size ≤ j → j < w4.heap.size → j ≠ b22 := fun j _ _ => by omega
    have hq1 : w1.heap.size ≤ w2.heap.size := by omega
    have hq2 : w3.heap.size ≤ w3.heap.size := Nat.le_refl _
    have hq3 : ∀ {n}, w4.heap.size ≤ n → w4.heap.size ≤ n := fun h => h
    have r22 : Row w4 b22 32 [.slice none 0 0, .slice none 0 0] := r22
    have s4 := k14.size
    ((refine .take 8 rfl (by kernel_rfl) rfl rfl (.buildC rfl rfl) ?_))
    refine D.one0 10 rfl (by kernel_rfl) rfl (St.storeC rfl rfl rfl r22 (by simp [Value.cells]) (one2 rfl rfl)) (fun v5 w5 h5 => ⟨fun h => absurd h (by decide), ?_⟩)
    refine D.fin (by kernel_rfl) ?_
    have s5 := h5.size
    have k5 := h5.keep
    have r5 : Row w5 b22 32 [.slice Xa d.1.length xca, .slice Xd d.2.length xcd] := h5.row
    have hTa := hTa.keep k5 (fun j a b' e => nb1 j a b' e)
    have hTd := hTd.keep k5 (fun j a b' e => nb2 j a b' e)
    have hD : DW w1.heap.size w5.heap.size w5 _ _ d := ⟨_, by omega, by omega, hTa.wide hq1 hq2, hTd.wide (Nat.le_refl _) (hq3 (by omega))⟩
    have h5' := (h1.keep k14 (fun _ _ => non_not _)).keep k5 (fun k hk e => by have := hlt k hk; omega)
    have hd5 := (hd1.keep k14 (fun _ _ => non_not _)).keep k5 (fun k hk e => by have := hlt k (hF k hk).1; omega)
    have h165 := (h161.keep k14 (non_not _)).keep k5 (by have := h161.lt; omega)
    (repeat first|refine C.use (add2_piece B F b bm b16 b22 last w1.heap.size w5.heap.size ds d c0 c1 c2 _ _ _ _ vs vi w5 h5' hl h165 r5 hd5 hF hD (Nat.le_refl _) (fun k hk => by have := hlt k hk; omega) ⟨hbn, hmn⟩ ⟨by omega, by omega⟩ hfew) ⟨rfl, rfl, rfl, rfl, rfl, rfl, trivial⟩ ?_|refine .seq ?_|refine .region ?_|refine .block ?_|refine .skip ?_|refine .ret ?_|refine .exit ?_|refine .yes rfl ?_|refine .no rfl ?_|refine .nil ?_|refine .go ?_|refine .thenExit ?_|refine .thenRet ?_|refine .inExit ?_|refine .outExit rfl ?_|refine .inNormal ?_|refine .inRet ?_|refine .off rfl rfl ?_|refine .offU rfl rfl rfl ?_|(apply W.y rfl rfl;first|exact .move rfl|exact .assign rfl|exact .fieldC rfl|exact .loadW rfl (by (first|apply Ld.oneC|apply Ld.two|apply Ld.three|apply Ld.four|apply Ld.five);repeat(first|assumption|exact Row.cell (by assumption) (by first|rfl|assumption)))|exact .nilCheck rfl|exact .lenC rfl|exact .lenStrC rfl|exact .extract rfl rfl|exact .not rfl|exact .pickT rfl rfl|exact .pickF rfl rfl|exact .buildC rfl rfl|exact .indexC _ rfl rfl rfl (by omega)|exact .indexC 0 rfl rfl rfl (by omega)|exact .indexC 1 rfl rfl rfl (by omega)|exact .indexC 2 rfl rfl rfl (by omega)|exact .indexArrC _ rfl rfl rfl (by omega)|exact .indexArrC 0 rfl rfl rfl (by omega)|exact .indexArrC 1 rfl rfl rfl (by omega)|exact .indexArrC 2 rfl rfl rfl (by omega)|exact .add _ rfl rfl (wrap_i64 (by omega))|exact .sub _ rfl rfl (wrap_i64 (by omega))|exact .rem _ rfl rfl (by decide) (Int.tmod_eq_emod_of_nonneg (by omega))|exact .cmpT rfl rfl rfl (by unfold cmpP;omega)|exact .cmpF rfl rfl rfl (by unfold cmpP;omega)|fail)|fail)
    rintro e L' w6 ⟨rfl, rfl, h6, k6⟩
    exact E.endN _ ⟨rfl, rfl, ⟨_, h6, fun k hk => .inl hk⟩, ((kw1.then k14).far k5 (fun i hi => by omega)).trans k6 (fun i hi hs => by
      rcases hs with hs | hs | hs | hs
      · exact hs.elim
      · exact .inl hs
      · exact .inr hs
      · omega)⟩ ⟨rfl, rfl, rfl, rfl, trivial⟩
end Go.Proofs.Ytkehmehodgcdfaa
