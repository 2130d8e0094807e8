/- tree.first, remove. -/
import Derived.Test.YtmneommbdfapfaaTc
namespace Go.Proofs.Ytmneommbdfapfaa
open Vb Go.RowKit

def Tr.first : Tr → (Bs × Bs) × Tr
  | .nil => (([], []), .nil)
  | .node .nil k v r => ((k, v), r)
  | .node (.node ll lk lv lr) k v r => ((Tr.first (.node ll lk lv lr)).1, (Tr.first (.node ll lk lv lr)).2.bal k v r)
theorem Tr.first_count : ∀ t : Tr, (t.first).2.count ≤ t.count
  | .nil => Nat.le_refl _
  | .node .nil k v r => by simp only [Tr.first, Tr.count]; omega
  | .node (.node ll lk lv lr) k v r => by
    have := Tr.first_count (.node ll lk lv lr)
    simp only [Tr.first, Tr.bal_count]
    simp only [Tr.count] at this ⊢
    omega
def Tr.remove (k : Bs) : Tr → Tr
  | .nil => .nil
  | .node l nk nv r =>
    if Lib.compareBytes k nk < 0 then (Tr.remove k l).bal nk nv r
    else if 0 < Lib.compareBytes k nk then l.bal nk nv (Tr.remove k r)
    else match r with
      | .nil => l
      | .node rl rk rv rr => l.bal (Tr.first (.node rl rk rv rr)).1.1 (Tr.first (.node rl rk rv rr)).1.2 (Tr.first (.node rl rk rv rr)).2
theorem Tr.remove_count (k : Bs) : ∀ t : Tr, (t.remove k).count ≤ t.count
  | .nil => Nat.le_refl _
  | .node l nk nv r => by
    have h1 := Tr.remove_count k l
    have h2 := Tr.remove_count k r
    unfold Tr.remove
    split
    · rw [Tr.bal_count]; simp only [Tr.count]; omega
    · split
      · rw [Tr.bal_count]; simp only [Tr.count]; omega
      · cases r with
        | nil => simp only [Tr.count]; omega
        | node rl rk rv rr =>
          have := Tr.first_count (.node rl rk rv rr)
          simp only [Tr.bal_count]
          simp only [Tr.count] at this ⊢
          omega
def Tr.find (k : Bs) : Tr → Option Bs
  | .nil => none
  | .node l nk nv r =>
    if Lib.compareBytes k nk < 0 then Tr.find k l
    else if 0 < Lib.compareBytes k nk then Tr.find k r
    else some nv
theorem Tr.find_node (k : Bs) (l : Tr) (nk nv : Bs) (r : Tr) : (Tr.node l nk nv r).find k = if Lib.compareBytes k nk < 0 then Tr.find k l else if 0 < Lib.compareBytes k nk then Tr.find k r else some nv := rfl

set_option maxHeartbeats 6400000 in
theorem first_spec (F : Nat → Prop) : ∀ (t : Tr) (v : Value) (w : World), (∀ k, F k → k < w.heap.size) → NodeAt F w v t → 0 < t.count → t.count ≤ 274877906944 →
    Meets Try.prog 42 #[v] w (fun r w' => ∃ rk rx rn, r = .tuple #[.agg #[rk, rx], rn] ∧ Bytes F w' rk t.first.1.1 ∧ Bytes F w' rx t.first.1.2 ∧ NodeAt (fun k => F k ∨ Fresh w w' k) w' rn t.first.2 ∧ Keep Non w w') := by
  intro t
  induction t with
  | nil => intro v w _ _ h0; simp [Tr.count] at h0
  | node l nk nv r ihl _ =>
    intro v w hF0 ht _ hc
    obtain ⟨b, uk, ux, ul, ur, rfl, hF, hrow, hbk, hbx, hnl, hnr⟩ := ht
    have hlt := hrow.lt
    refine Meets.enter Try.func42 Try.ntmps42 rfl rfl ?_
    (repeat first|refine .seq ?_|refine .region ?_|refine .block ?_|refine .skip ?_|refine .ret ?_|refine .exit ?_|refine .yes rfl ?_|refine .no rfl ?_|refine .nil ?_|refine .go ?_|refine .thenExit ?_|refine .thenRet ?_|refine .inExit ?_|refine .outExit rfl ?_|refine .inNormal ?_|refine .inRet ?_|refine .off rfl rfl ?_|refine .offU rfl rfl rfl ?_|(apply W.y rfl rfl;first|exact .move rfl|exact .assign rfl|exact .fieldC rfl|exact .loadW rfl (by (first|apply Ld.oneC|apply Ld.two|apply Ld.three|apply Ld.four|apply Ld.five);repeat(first|assumption|exact Row.cell (by assumption) (by first|rfl|assumption)))|exact .nilCheck rfl|exact .lenC rfl|exact .lenStrC rfl|exact .extract rfl rfl|exact .not rfl|exact .pickT rfl rfl|exact .pickF rfl rfl|exact .buildC rfl rfl|exact .indexC _ rfl rfl rfl (by omega)|exact .indexC 0 rfl rfl rfl (by omega)|exact .indexC 1 rfl rfl rfl (by omega)|exact .indexC 2 rfl rfl rfl (by omega)|exact .indexArrC _ rfl rfl rfl (by omega)|exact .indexArrC 0 rfl rfl rfl (by omega)|exact .indexArrC 1 rfl rfl rfl (by omega)|exact .indexArrC 2 rfl rfl rfl (by omega)|exact .add _ rfl rfl (wrap_i64 (by omega))|exact .sub _ rfl rfl (wrap_i64 (by omega))|exact .rem _ rfl rfl (by decide) (Int.tmod_eq_emod_of_nonneg (by omega))|exact .cmpT rfl rfl rfl (by dsimp only [cmpP];omega)|exact .cmpF rfl rfl rfl (by dsimp only [cmpP];omega)))
    refine W.st rfl rfl St.allocC (fun v1 w1 hv => ?_)
    obtain ⟨b1, rfl, hN1⟩ := hv
    have hr1 := hN1.row
    have s1 := hN1.size
    have a1 := hN1.at_
    have k1 := hN1.keep
    have hrow1 := hrow.keep k1 (non_not _)
    (repeat first|refine .seq ?_|refine .region ?_|refine .block ?_|refine .skip ?_|refine .ret ?_|refine .exit ?_|refine .yes rfl ?_|refine .no rfl ?_|refine .nil ?_|refine .go ?_|refine .thenExit ?_|refine .thenRet ?_|refine .inExit ?_|refine .outExit rfl ?_|refine .inNormal ?_|refine .inRet ?_|refine .off rfl rfl ?_|refine .offU rfl rfl rfl ?_|(apply W.y rfl rfl;first|exact .move rfl|exact .assign rfl|exact .fieldC rfl|exact .loadW rfl (by (first|apply Ld.oneC|apply Ld.two|apply Ld.three|apply Ld.four|apply Ld.five);repeat(first|assumption|exact Row.cell (by assumption) (by first|rfl|assumption)))|exact .nilCheck rfl|exact .lenC rfl|exact .lenStrC rfl|exact .extract rfl rfl|exact .not rfl|exact .pickT rfl rfl|exact .pickF rfl rfl|exact .buildC rfl rfl|exact .indexC _ rfl rfl rfl (by omega)|exact .indexC 0 rfl rfl rfl (by omega)|exact .indexC 1 rfl rfl rfl (by omega)|exact .indexC 2 rfl rfl rfl (by omega)|exact .indexArrC _ rfl rfl rfl (by omega)|exact .indexArrC 0 rfl rfl rfl (by omega)|exact .indexArrC 1 rfl rfl rfl (by omega)|exact .indexArrC 2 rfl rfl rfl (by omega)|exact .add _ rfl rfl (wrap_i64 (by omega))|exact .sub _ rfl rfl (wrap_i64 (by omega))|exact .rem _ rfl rfl (by decide) (Int.tmod_eq_emod_of_nonneg (by omega))|exact .cmpT rfl rfl rfl (by dsimp only [cmpP];omega)|exact .cmpF rfl rfl rfl (by dsimp only [cmpP];omega)))
    cases l with
    | nil =>
      cases hnl
      refine W.y rfl rfl (Y.eqlPtrNilC rfl rfl) ?_
      (repeat first|refine .seq ?_|refine .region ?_|refine .block ?_|refine .skip ?_|refine .ret ?_|refine .exit ?_|refine .yes rfl ?_|refine .no rfl ?_|refine .nil ?_|refine .go ?_|refine .thenExit ?_|refine .thenRet ?_|refine .inExit ?_|refine .outExit rfl ?_|refine .inNormal ?_|refine .inRet ?_|refine .off rfl rfl ?_|refine .offU rfl rfl rfl ?_|(apply W.y rfl rfl;first|exact .move rfl|exact .assign rfl|exact .fieldC rfl|exact .loadW rfl (by (first|apply Ld.oneC|apply Ld.two|apply Ld.three|apply Ld.four|apply Ld.five);repeat(first|assumption|exact Row.cell (by assumption) (by first|rfl|assumption)))|exact .nilCheck rfl|exact .lenC rfl|exact .lenStrC rfl|exact .extract rfl rfl|exact .not rfl|exact .pickT rfl rfl|exact .pickF rfl rfl|exact .buildC rfl rfl|exact .indexC _ rfl rfl rfl (by omega)|exact .indexC 0 rfl rfl rfl (by omega)|exact .indexC 1 rfl rfl rfl (by omega)|exact .indexC 2 rfl rfl rfl (by omega)|exact .indexArrC _ rfl rfl rfl (by omega)|exact .indexArrC 0 rfl rfl rfl (by omega)|exact .indexArrC 1 rfl rfl rfl (by omega)|exact .indexArrC 2 rfl rfl rfl (by omega)|exact .add _ rfl rfl (wrap_i64 (by omega))|exact .sub _ rfl rfl (wrap_i64 (by omega))|exact .rem _ rfl rfl (by decide) (Int.tmod_eq_emod_of_nonneg (by omega))|exact .cmpT rfl rfl rfl (by dsimp only [cmpP];omega)|exact .cmpF rfl rfl rfl (by dsimp only [cmpP];omega)))
      refine C.draw 10 (fun wq => Keep (fun k => k = b1) w1 wq) [] mixed rfl (fun w2 kw2 ew2 => ?_)
      have hS2 : Keep (fun k => k = b1) w1 w2 := kw2.any
      have hr2 := hr1.keep kw2 (non_not _)
      have k2 := k1.then kw2
      have s2 := kw2.size
      ((refine .take 0 rfl (by kernel_rfl) rfl rfl (.move rfl) ?_); (refine .take 1 rfl (by kernel_rfl) rfl rfl (.nilCheck rfl) ?_); (refine .take 2 rfl (by kernel_rfl) rfl rfl (.fieldC rfl) ?_); (refine .read 3 rfl (by kernel_rfl) rfl rfl (by assumption) (.load rfl (fun w hw => (by (first|apply Ld.oneC|apply Ld.two|apply Ld.three|apply Ld.four|apply Ld.five);repeat(apply Keep.cell hw;(first|assumption|exact Row.cell (by assumption) (by first|rfl|assumption));first|exact non_not _|assumption|(intro e;omega)|(simp;omega))))) ?_); (refine .take 4 rfl (by kernel_rfl) rfl rfl (.move rfl) ?_); (refine .take 5 rfl (by kernel_rfl) rfl rfl (.nilCheck rfl) ?_); (refine .take 6 rfl (by kernel_rfl) rfl rfl (.fieldC rfl) ?_); (refine .read 7 rfl (by kernel_rfl) rfl rfl (by assumption) (.load rfl (fun w hw => (by (first|apply Ld.oneC|apply Ld.two|apply Ld.three|apply Ld.four|apply Ld.five);repeat(apply Keep.cell hw;(first|assumption|exact Row.cell (by assumption) (by first|rfl|assumption));first|exact non_not _|assumption|(intro e;omega)|(simp;omega))))) ?_))
      refine D.one0 8 rfl (by kernel_rfl) rfl (St.storeC rfl rfl rfl hr2 (by simp [Value.cells]) (one2 (slice_one hbk) (slice_one hbx))) (fun v3 w3 h3 => ⟨fun _ hS => hS.then h3.keep, ?_⟩)
      have hr3 := h3.row
      have k3 := k2.put h3 (by omega)
      have s3 := h3.size
      ((refine .take 9 rfl (by kernel_rfl) rfl rfl (.assign rfl) ?_))
      refine D.fin (by kernel_rfl) ?_
      (repeat first|refine .seq ?_|refine .region ?_|refine .block ?_|refine .skip ?_|refine .ret ?_|refine .exit ?_|refine .yes rfl ?_|refine .no rfl ?_|refine .nil ?_|refine .go ?_|refine .thenExit ?_|refine .thenRet ?_|refine .inExit ?_|refine .outExit rfl ?_|refine .inNormal ?_|refine .inRet ?_|refine .off rfl rfl ?_|refine .offU rfl rfl rfl ?_|(apply W.y rfl rfl;first|exact .move rfl|exact .assign rfl|exact .fieldC rfl|exact .loadW rfl (by (first|apply Ld.oneC|apply Ld.two|apply Ld.three|apply Ld.four|apply Ld.five);repeat(first|assumption|exact Row.cell (by assumption) (by first|rfl|assumption)))|exact .nilCheck rfl|exact .lenC rfl|exact .lenStrC rfl|exact .extract rfl rfl|exact .not rfl|exact .pickT rfl rfl|exact .pickF rfl rfl|exact .buildC rfl rfl|exact .indexC _ rfl rfl rfl (by omega)|exact .indexC 0 rfl rfl rfl (by omega)|exact .indexC 1 rfl rfl rfl (by omega)|exact .indexC 2 rfl rfl rfl (by omega)|exact .indexArrC _ rfl rfl rfl (by omega)|exact .indexArrC 0 rfl rfl rfl (by omega)|exact .indexArrC 1 rfl rfl rfl (by omega)|exact .indexArrC 2 rfl rfl rfl (by omega)|exact .add _ rfl rfl (wrap_i64 (by omega))|exact .sub _ rfl rfl (wrap_i64 (by omega))|exact .rem _ rfl rfl (by decide) (Int.tmod_eq_emod_of_nonneg (by omega))|exact .cmpT rfl rfl rfl (by dsimp only [cmpP];omega)|exact .cmpF rfl rfl rfl (by dsimp only [cmpP];omega)))
      exact E.retCell2 rfl rfl (Ld.two (by first|assumption|exact Row.cell (by assumption) (by first|rfl|assumption)) (by first|assumption|exact Row.cell (by assumption) (by first|rfl|assumption))) rfl ⟨_, _, _, rfl, hbk.keep k3 (fun k _ => non_not k), hbx.keep k3 (fun k _ => non_not k), hnr.up k3 (fun _ h => .inl h), k3⟩
    | node ll lk lv lr =>
      obtain ⟨bl, vlk, vlx, vll, vlr, rfl, hFl, hrowl, hbkl, hbxl, hnll, hnlr⟩ := id hnl
      simp only [Tr.count] at hc ihl
      refine W.y rfl rfl (Y.eqlPtrNilC rfl rfl) ?_
      (repeat first|refine .seq ?_|refine .region ?_|refine .block ?_|refine .skip ?_|refine .ret ?_|refine .exit ?_|refine .yes rfl ?_|refine .no rfl ?_|refine .nil ?_|refine .go ?_|refine .thenExit ?_|refine .thenRet ?_|refine .inExit ?_|refine .outExit rfl ?_|refine .inNormal ?_|refine .inRet ?_|refine .off rfl rfl ?_|refine .offU rfl rfl rfl ?_|(apply W.y rfl rfl;first|exact .move rfl|exact .assign rfl|exact .fieldC rfl|exact .loadW rfl (by (first|apply Ld.oneC|apply Ld.two|apply Ld.three|apply Ld.four|apply Ld.five);repeat(first|assumption|exact Row.cell (by assumption) (by first|rfl|assumption)))|exact .nilCheck rfl|exact .lenC rfl|exact .lenStrC rfl|exact .extract rfl rfl|exact .not rfl|exact .pickT rfl rfl|exact .pickF rfl rfl|exact .buildC rfl rfl|exact .indexC _ rfl rfl rfl (by omega)|exact .indexC 0 rfl rfl rfl (by omega)|exact .indexC 1 rfl rfl rfl (by omega)|exact .indexC 2 rfl rfl rfl (by omega)|exact .indexArrC _ rfl rfl rfl (by omega)|exact .indexArrC 0 rfl rfl rfl (by omega)|exact .indexArrC 1 rfl rfl rfl (by omega)|exact .indexArrC 2 rfl rfl rfl (by omega)|exact .add _ rfl rfl (wrap_i64 (by omega))|exact .sub _ rfl rfl (wrap_i64 (by omega))|exact .rem _ rfl rfl (by decide) (Int.tmod_eq_emod_of_nonneg (by omega))|exact .cmpT rfl rfl rfl (by dsimp only [cmpP];omega)|exact .cmpF rfl rfl rfl (by dsimp only [cmpP];omega)))
      refine W.st rfl rfl (St.callC rfl (ihl _ w1 (fun k hk => by have := hF0 k hk; omega) (hnl.keep k1 (fun k _ => non_not k)) (by omega) (by omega))) (fun v2 w2 h2 => ?_)
      obtain ⟨rk, rx, rn, rfl, h2k, h2x, h2n, k2⟩ := h2
      have s2 := k2.size
      (repeat first|refine .seq ?_|refine .region ?_|refine .block ?_|refine .skip ?_|refine .ret ?_|refine .exit ?_|refine .yes rfl ?_|refine .no rfl ?_|refine .nil ?_|refine .go ?_|refine .thenExit ?_|refine .thenRet ?_|refine .inExit ?_|refine .outExit rfl ?_|refine .inNormal ?_|refine .inRet ?_|refine .off rfl rfl ?_|refine .offU rfl rfl rfl ?_|(apply W.y rfl rfl;first|exact .move rfl|exact .assign rfl|exact .fieldC rfl|exact .loadW rfl (by (first|apply Ld.oneC|apply Ld.two|apply Ld.three|apply Ld.four|apply Ld.five);repeat(first|assumption|exact Row.cell (by assumption) (by first|rfl|assumption)))|exact .nilCheck rfl|exact .lenC rfl|exact .lenStrC rfl|exact .extract rfl rfl|exact .not rfl|exact .pickT rfl rfl|exact .pickF rfl rfl|exact .buildC rfl rfl|exact .indexC _ rfl rfl rfl (by omega)|exact .indexC 0 rfl rfl rfl (by omega)|exact .indexC 1 rfl rfl rfl (by omega)|exact .indexC 2 rfl rfl rfl (by omega)|exact .indexArrC _ rfl rfl rfl (by omega)|exact .indexArrC 0 rfl rfl rfl (by omega)|exact .indexArrC 1 rfl rfl rfl (by omega)|exact .indexArrC 2 rfl rfl rfl (by omega)|exact .add _ rfl rfl (wrap_i64 (by omega))|exact .sub _ rfl rfl (wrap_i64 (by omega))|exact .rem _ rfl rfl (by decide) (Int.tmod_eq_emod_of_nonneg (by omega))|exact .cmpT rfl rfl rfl (by dsimp only [cmpP];omega)|exact .cmpF rfl rfl rfl (by dsimp only [cmpP];omega)))
      refine W.st rfl rfl St.allocC (fun v3 w3 hv => ?_)
      obtain ⟨b3, rfl, hN3⟩ := hv
      have hr3 := hN3.row
      have s3 := hN3.size
      have a3 := hN3.at_
      refine W.st0 rfl (St.storeC rfl rfl rfl hr3 (by simp [Value.cells]) (one2 (slice_one h2k) (slice_one h2x))) (fun v4 w4 h4 => ?_)
      have hr4 := h4.row
      have s4 := h4.size
      have k24 : Keep Non w2 w4 := hN3.keep.put h4 (by omega)
      have k4 := (k1.then k2).then k24
      have k14 := k2.then k24
      have hr14 := hr1.keep k14 (non_not _)
      have hrow4 := hrow1.keep k14 (non_not _)
      (repeat first|refine .seq ?_|refine .region ?_|refine .block ?_|refine .skip ?_|refine .ret ?_|refine .exit ?_|refine .yes rfl ?_|refine .no rfl ?_|refine .nil ?_|refine .go ?_|refine .thenExit ?_|refine .thenRet ?_|refine .inExit ?_|refine .outExit rfl ?_|refine .inNormal ?_|refine .inRet ?_|refine .off rfl rfl ?_|refine .offU rfl rfl rfl ?_|(apply W.y rfl rfl;first|exact .move rfl|exact .assign rfl|exact .fieldC rfl|exact .loadW rfl (by (first|apply Ld.oneC|apply Ld.two|apply Ld.three|apply Ld.four|apply Ld.five);repeat(first|assumption|exact Row.cell (by assumption) (by first|rfl|assumption)))|exact .nilCheck rfl|exact .lenC rfl|exact .lenStrC rfl|exact .extract rfl rfl|exact .not rfl|exact .pickT rfl rfl|exact .pickF rfl rfl|exact .buildC rfl rfl|exact .indexC _ rfl rfl rfl (by omega)|exact .indexC 0 rfl rfl rfl (by omega)|exact .indexC 1 rfl rfl rfl (by omega)|exact .indexC 2 rfl rfl rfl (by omega)|exact .indexArrC _ rfl rfl rfl (by omega)|exact .indexArrC 0 rfl rfl rfl (by omega)|exact .indexArrC 1 rfl rfl rfl (by omega)|exact .indexArrC 2 rfl rfl rfl (by omega)|exact .add _ rfl rfl (wrap_i64 (by omega))|exact .sub _ rfl rfl (wrap_i64 (by omega))|exact .rem _ rfl rfl (by decide) (Int.tmod_eq_emod_of_nonneg (by omega))|exact .cmpT rfl rfl rfl (by dsimp only [cmpP];omega)|exact .cmpF rfl rfl rfl (by dsimp only [cmpP];omega)))
      refine C.draw 13 (fun wq => Keep (fun k => k = b1) w4 wq) [] mixed rfl (fun w5 kw5 ew5 => ?_)
      have hS5 : Keep (fun k => k = b1) w4 w5 := kw5.any
      have hr5 := hr14.keep kw5 (non_not _)
      have k5 := k4.then kw5
      have k25 := k24.then kw5
      have s5 := kw5.size
      have fc := Tr.first_count (.node ll lk lv lr)
      simp only [Tr.count] at fc
      ((refine .read 0 rfl (by kernel_rfl) rfl rfl (by assumption) (.load rfl (fun w hw => (by (first|apply Ld.oneC|apply Ld.two|apply Ld.three|apply Ld.four|apply Ld.five);repeat(apply Keep.cell hw;(first|assumption|exact Row.cell (by assumption) (by first|rfl|assumption));first|exact non_not _|assumption|(intro e;omega)|(simp;omega))))) ?_); (refine .take 1 rfl (by kernel_rfl) rfl rfl (.move rfl) ?_); (refine .take 2 rfl (by kernel_rfl) rfl rfl (.move rfl) ?_); (refine .take 3 rfl (by kernel_rfl) rfl rfl (.nilCheck rfl) ?_); (refine .take 4 rfl (by kernel_rfl) rfl rfl (.fieldC rfl) ?_); (refine .read 5 rfl (by kernel_rfl) rfl rfl (by assumption) (.load rfl (fun w hw => (by (first|apply Ld.oneC|apply Ld.two|apply Ld.three|apply Ld.four|apply Ld.five);repeat(apply Keep.cell hw;(first|assumption|exact Row.cell (by assumption) (by first|rfl|assumption));first|exact non_not _|assumption|(intro e;omega)|(simp;omega))))) ?_); (refine .take 6 rfl (by kernel_rfl) rfl rfl (.move rfl) ?_); (refine .take 7 rfl (by kernel_rfl) rfl rfl (.nilCheck rfl) ?_); (refine .take 8 rfl (by kernel_rfl) rfl rfl (.fieldC rfl) ?_); (refine .read 9 rfl (by kernel_rfl) rfl rfl (by assumption) (.load rfl (fun w hw => (by (first|apply Ld.oneC|apply Ld.two|apply Ld.three|apply Ld.four|apply Ld.five);repeat(apply Keep.cell hw;(first|assumption|exact Row.cell (by assumption) (by first|rfl|assumption));first|exact non_not _|assumption|(intro e;omega)|(simp;omega))))) ?_))
      refine D.one 10 rfl (by kernel_rfl) rfl rfl (St.callC rfl (bal_spec (fun k => F k ∨ Fresh w1 w2 k) rn uk ux ur (Tr.first (.node ll lk lv lr)).2 r nk nv w5 (h2n.up k25 (fun _ h => h)) (hbk.up k5 (fun _ h => .inl h)) (hbx.up k5 (fun _ h => .inl h)) (hnr.up k5 (fun _ h => .inl h)) (by omega))) (fun v6 w6 h6 => ⟨fun _ hS => hS.then h6.2.any, ?_⟩)
      obtain ⟨h6, k6⟩ := h6
      have s6 := k6.size
      skip
      have hr6 := hr5.keep k6 (non_not _)
      refine D.one0 11 rfl (by kernel_rfl) rfl (St.storeC rfl rfl rfl hr6 (by simp [Value.cells]) (one2 (slice_one h2k) (slice_one h2x))) (fun v7 w7 h7 => ⟨fun _ hS => hS.then h7.keep, ?_⟩)
      have hr7 := h7.row
      have k7 := (k5.then k6).put h7 (by omega)
      have k26 := k25.then k6
      have hb1 : ∀ k, F k → ¬ (k = b1) := fun k hk e => by have := hF0 k hk; omega
      have s7 := h7.size
      ((refine .take 12 rfl (by kernel_rfl) rfl rfl (.assign rfl) ?_))
      refine D.fin (by kernel_rfl) ?_
      (repeat first|refine .seq ?_|refine .region ?_|refine .block ?_|refine .skip ?_|refine .ret ?_|refine .exit ?_|refine .yes rfl ?_|refine .no rfl ?_|refine .nil ?_|refine .go ?_|refine .thenExit ?_|refine .thenRet ?_|refine .inExit ?_|refine .outExit rfl ?_|refine .inNormal ?_|refine .inRet ?_|refine .off rfl rfl ?_|refine .offU rfl rfl rfl ?_|(apply W.y rfl rfl;first|exact .move rfl|exact .assign rfl|exact .fieldC rfl|exact .loadW rfl (by (first|apply Ld.oneC|apply Ld.two|apply Ld.three|apply Ld.four|apply Ld.five);repeat(first|assumption|exact Row.cell (by assumption) (by first|rfl|assumption)))|exact .nilCheck rfl|exact .lenC rfl|exact .lenStrC rfl|exact .extract rfl rfl|exact .not rfl|exact .pickT rfl rfl|exact .pickF rfl rfl|exact .buildC rfl rfl|exact .indexC _ rfl rfl rfl (by omega)|exact .indexC 0 rfl rfl rfl (by omega)|exact .indexC 1 rfl rfl rfl (by omega)|exact .indexC 2 rfl rfl rfl (by omega)|exact .indexArrC _ rfl rfl rfl (by omega)|exact .indexArrC 0 rfl rfl rfl (by omega)|exact .indexArrC 1 rfl rfl rfl (by omega)|exact .indexArrC 2 rfl rfl rfl (by omega)|exact .add _ rfl rfl (wrap_i64 (by omega))|exact .sub _ rfl rfl (wrap_i64 (by omega))|exact .rem _ rfl rfl (by decide) (Int.tmod_eq_emod_of_nonneg (by omega))|exact .cmpT rfl rfl rfl (by dsimp only [cmpP];omega)|exact .cmpF rfl rfl rfl (by dsimp only [cmpP];omega)))
      refine E.retCell2 rfl rfl (Ld.two (by first|assumption|exact Row.cell (by assumption) (by first|rfl|assumption)) (by first|assumption|exact Row.cell (by assumption) (by first|rfl|assumption))) rfl ⟨_, _, _, rfl, (h2k.keep k26 (fun k _ => non_not k)).keep h7.keep hb1, (h2x.keep k26 (fun k _ => non_not k)).keep h7.keep hb1, ?_, k7⟩
      refine NodeAt.mono (fun k hk => ?_) (h6.keep h7.keep (fun k hk e => ?_))
      · rcases hk with (hk | hk) | hk
        · exact .inl hk
        all_goals exact .inr ⟨by have := hk.1; omega, by have := hk.2; omega⟩
      · have e' : k = b1 := e
        rcases hk with (hk | hk) | hk
        · exact hb1 k hk e
        all_goals have := hk.1; omega

set_option maxHeartbeats 6400000 in
theorem remove_spec (F G : Nat → Prop) (vk : Value) (k : Bs) : ∀ (t : Tr) (v : Value) (w : World), (∀ k, F k → k < w.heap.size) → NodeAt F w v t → Bytes G w vk k → (t.find k).isSome = true → t.count ≤ 274877906944 →
    Meets Try.prog 31 #[v, vk] w (fun r w' => NodeAt (fun k => F k ∨ Fresh w w' k) w' r (t.remove k) ∧ Keep Non w w') := by
  intro t
  induction t with
  | nil => intro v w _ _ _ h0; simp [Tr.find] at h0
  | node l nk nv r ihl ihr =>
    intro v w hF0 ht hk hfd hc
    obtain ⟨b, uk, ux, ul, ur, rfl, hF, hrow, hbk, hbx, hnl, hnr⟩ := ht
    simp only [Tr.count] at hc
    have cl := l.remove_count k
    have cr := r.remove_count k
    refine Meets.enter Try.func31 Try.ntmps31 rfl rfl ?_
    (repeat first|refine .seq ?_|refine .region ?_|refine .block ?_|refine .skip ?_|refine .ret ?_|refine .exit ?_|refine .yes rfl ?_|refine .no rfl ?_|refine .nil ?_|refine .go ?_|refine .thenExit ?_|refine .thenRet ?_|refine .inExit ?_|refine .outExit rfl ?_|refine .inNormal ?_|refine .inRet ?_|refine .off rfl rfl ?_|refine .offU rfl rfl rfl ?_|(apply W.y rfl rfl;first|exact .move rfl|exact .assign rfl|exact .fieldC rfl|exact .loadW rfl (by (first|apply Ld.oneC|apply Ld.two|apply Ld.three|apply Ld.four|apply Ld.five);repeat(first|assumption|exact Row.cell (by assumption) (by first|rfl|assumption)))|exact .nilCheck rfl|exact .lenC rfl|exact .lenStrC rfl|exact .extract rfl rfl|exact .not rfl|exact .pickT rfl rfl|exact .pickF rfl rfl|exact .buildC rfl rfl|exact .indexC _ rfl rfl rfl (by omega)|exact .indexC 0 rfl rfl rfl (by omega)|exact .indexC 1 rfl rfl rfl (by omega)|exact .indexC 2 rfl rfl rfl (by omega)|exact .indexArrC _ rfl rfl rfl (by omega)|exact .indexArrC 0 rfl rfl rfl (by omega)|exact .indexArrC 1 rfl rfl rfl (by omega)|exact .indexArrC 2 rfl rfl rfl (by omega)|exact .add _ rfl rfl (wrap_i64 (by omega))|exact .sub _ rfl rfl (wrap_i64 (by omega))|exact .rem _ rfl rfl (by decide) (Int.tmod_eq_emod_of_nonneg (by omega))|exact .cmpT rfl rfl rfl (by dsimp only [cmpP];omega)|exact .cmpF rfl rfl rfl (by dsimp only [cmpP];omega)))
    refine W.st rfl rfl (St.callC rfl (compare_spec G F _ _ k nk w hk hbk)) (fun v3 w3 h3 => ?_)
    obtain ⟨rfl, rfl⟩ := h3
    unfold Tr.find at hfd
    unfold Tr.remove
    by_cases h1 : Lib.compareBytes k nk < 0
    · rw [if_pos h1] at hfd ⊢
      (repeat first|refine .seq ?_|refine .region ?_|refine .block ?_|refine .skip ?_|refine .ret ?_|refine .exit ?_|refine .yes rfl ?_|refine .no rfl ?_|refine .nil ?_|refine .go ?_|refine .thenExit ?_|refine .thenRet ?_|refine .inExit ?_|refine .outExit rfl ?_|refine .inNormal ?_|refine .inRet ?_|refine .off rfl rfl ?_|refine .offU rfl rfl rfl ?_|(apply W.y rfl rfl;first|exact .move rfl|exact .assign rfl|exact .fieldC rfl|exact .loadW rfl (by (first|apply Ld.oneC|apply Ld.two|apply Ld.three|apply Ld.four|apply Ld.five);repeat(first|assumption|exact Row.cell (by assumption) (by first|rfl|assumption)))|exact .nilCheck rfl|exact .lenC rfl|exact .lenStrC rfl|exact .extract rfl rfl|exact .not rfl|exact .pickT rfl rfl|exact .pickF rfl rfl|exact .buildC rfl rfl|exact .indexC _ rfl rfl rfl (by omega)|exact .indexC 0 rfl rfl rfl (by omega)|exact .indexC 1 rfl rfl rfl (by omega)|exact .indexC 2 rfl rfl rfl (by omega)|exact .indexArrC _ rfl rfl rfl (by omega)|exact .indexArrC 0 rfl rfl rfl (by omega)|exact .indexArrC 1 rfl rfl rfl (by omega)|exact .indexArrC 2 rfl rfl rfl (by omega)|exact .add _ rfl rfl (wrap_i64 (by omega))|exact .sub _ rfl rfl (wrap_i64 (by omega))|exact .rem _ rfl rfl (by decide) (Int.tmod_eq_emod_of_nonneg (by omega))|exact .cmpT rfl rfl rfl (by dsimp only [cmpP];omega)|exact .cmpF rfl rfl rfl (by dsimp only [cmpP];omega)))
      refine C.draw 16 (fun wq => Keep Non w3 wq) [] mixed rfl (fun w4 kw4 ew4 => ?_)
      ((refine .take 0 rfl (by kernel_rfl) rfl rfl (.move rfl) ?_); (refine .take 1 rfl (by kernel_rfl) rfl rfl (.nilCheck rfl) ?_); (refine .take 2 rfl (by kernel_rfl) rfl rfl (.fieldC rfl) ?_); (refine .read 3 rfl (by kernel_rfl) rfl rfl (by assumption) (.load rfl (fun w hw => (by (first|apply Ld.oneC|apply Ld.two|apply Ld.three|apply Ld.four|apply Ld.five);repeat(apply Keep.cell hw;(first|assumption|exact Row.cell (by assumption) (by first|rfl|assumption));first|exact non_not _|assumption|(intro e;omega)|(simp;omega))))) ?_); (refine .take 4 rfl (by kernel_rfl) rfl rfl (.move rfl) ?_); (refine .take 6 rfl (by kernel_rfl) rfl rfl (.move rfl) ?_); (refine .take 7 rfl (by kernel_rfl) rfl rfl (.nilCheck rfl) ?_); (refine .take 8 rfl (by kernel_rfl) rfl rfl (.fieldC rfl) ?_); (refine .read 9 rfl (by kernel_rfl) rfl rfl (by assumption) (.load rfl (fun w hw => (by (first|apply Ld.oneC|apply Ld.two|apply Ld.three|apply Ld.four|apply Ld.five);repeat(apply Keep.cell hw;(first|assumption|exact Row.cell (by assumption) (by first|rfl|assumption));first|exact non_not _|assumption|(intro e;omega)|(simp;omega))))) ?_); (refine .take 10 rfl (by kernel_rfl) rfl rfl (.move rfl) ?_); (refine .take 11 rfl (by kernel_rfl) rfl rfl (.nilCheck rfl) ?_); (refine .take 12 rfl (by kernel_rfl) rfl rfl (.fieldC rfl) ?_); (refine .read 13 rfl (by kernel_rfl) rfl rfl (by assumption) (.load rfl (fun w hw => (by (first|apply Ld.oneC|apply Ld.two|apply Ld.three|apply Ld.four|apply Ld.five);repeat(apply Keep.cell hw;(first|assumption|exact Row.cell (by assumption) (by first|rfl|assumption));first|exact non_not _|assumption|(intro e;omega)|(simp;omega))))) ?_))
      refine D.one 5 rfl (by kernel_rfl) rfl rfl (St.callC rfl (ihl ul w4 (fun k hk => by have := hF0 k hk; have := kw4.size; omega) (hnl.keep kw4 (fun k _ => non_not k)) (hk.keep kw4 (fun k _ => non_not k)) hfd (by omega))) (fun v5 w5 h5 => ⟨fun _ hS => hS.then h5.2, ?_⟩)
      obtain ⟨h5, k5⟩ := h5
      have k45 := kw4.then k5
      skip
      refine D.one 14 rfl (by kernel_rfl) rfl rfl (St.callC rfl (bal_spec _ v5 uk ux ur (Tr.remove k l) r nk nv w5 h5 (hbk.up k45 (fun _ h => .inl h)) (hbx.up k45 (fun _ h => .inl h)) (hnr.up k45 (fun _ h => .inl h)) (by omega))) (fun v6 w6 h6 => ⟨fun _ hS => hS.then h6.2, ?_⟩)
      obtain ⟨h6, k6⟩ := h6
      ((refine .take 15 rfl (by kernel_rfl) rfl rfl (.assign rfl) ?_))
      refine D.fin (by kernel_rfl) ?_
      (repeat first|refine .seq ?_|refine .region ?_|refine .block ?_|refine .skip ?_|refine .ret ?_|refine .exit ?_|refine .yes rfl ?_|refine .no rfl ?_|refine .nil ?_|refine .go ?_|refine .thenExit ?_|refine .thenRet ?_|refine .inExit ?_|refine .outExit rfl ?_|refine .inNormal ?_|refine .inRet ?_|refine .off rfl rfl ?_|refine .offU rfl rfl rfl ?_|(apply W.y rfl rfl;first|exact .move rfl|exact .assign rfl|exact .fieldC rfl|exact .loadW rfl (by (first|apply Ld.oneC|apply Ld.two|apply Ld.three|apply Ld.four|apply Ld.five);repeat(first|assumption|exact Row.cell (by assumption) (by first|rfl|assumption)))|exact .nilCheck rfl|exact .lenC rfl|exact .lenStrC rfl|exact .extract rfl rfl|exact .not rfl|exact .pickT rfl rfl|exact .pickF rfl rfl|exact .buildC rfl rfl|exact .indexC _ rfl rfl rfl (by omega)|exact .indexC 0 rfl rfl rfl (by omega)|exact .indexC 1 rfl rfl rfl (by omega)|exact .indexC 2 rfl rfl rfl (by omega)|exact .indexArrC _ rfl rfl rfl (by omega)|exact .indexArrC 0 rfl rfl rfl (by omega)|exact .indexArrC 1 rfl rfl rfl (by omega)|exact .indexArrC 2 rfl rfl rfl (by omega)|exact .add _ rfl rfl (wrap_i64 (by omega))|exact .sub _ rfl rfl (wrap_i64 (by omega))|exact .rem _ rfl rfl (by decide) (Int.tmod_eq_emod_of_nonneg (by omega))|exact .cmpT rfl rfl rfl (by dsimp only [cmpP];omega)|exact .cmpF rfl rfl rfl (by dsimp only [cmpP];omega)))
      have s4 := kw4.size
      have s5 := k5.size
      have s6 := k6.size
      exact E.ret1 rfl rfl ⟨h6.mono (fun k hk => by
        rcases hk with (hk | hk) | hk
        · exact .inl hk
        all_goals exact .inr ⟨by have := hk.1; omega, by have := hk.2; omega⟩), k45.then k6⟩
    · rw [if_neg h1] at hfd ⊢
      by_cases h2 : 0 < Lib.compareBytes k nk
      · rw [if_pos h2] at hfd ⊢
        (repeat first|refine .seq ?_|refine .region ?_|refine .block ?_|refine .skip ?_|refine .ret ?_|refine .exit ?_|refine .yes rfl ?_|refine .no rfl ?_|refine .nil ?_|refine .go ?_|refine .thenExit ?_|refine .thenRet ?_|refine .inExit ?_|refine .outExit rfl ?_|refine .inNormal ?_|refine .inRet ?_|refine .off rfl rfl ?_|refine .offU rfl rfl rfl ?_|(apply W.y rfl rfl;first|exact .move rfl|exact .assign rfl|exact .fieldC rfl|exact .loadW rfl (by (first|apply Ld.oneC|apply Ld.two|apply Ld.three|apply Ld.four|apply Ld.five);repeat(first|assumption|exact Row.cell (by assumption) (by first|rfl|assumption)))|exact .nilCheck rfl|exact .lenC rfl|exact .lenStrC rfl|exact .extract rfl rfl|exact .not rfl|exact .pickT rfl rfl|exact .pickF rfl rfl|exact .buildC rfl rfl|exact .indexC _ rfl rfl rfl (by omega)|exact .indexC 0 rfl rfl rfl (by omega)|exact .indexC 1 rfl rfl rfl (by omega)|exact .indexC 2 rfl rfl rfl (by omega)|exact .indexArrC _ rfl rfl rfl (by omega)|exact .indexArrC 0 rfl rfl rfl (by omega)|exact .indexArrC 1 rfl rfl rfl (by omega)|exact .indexArrC 2 rfl rfl rfl (by omega)|exact .add _ rfl rfl (wrap_i64 (by omega))|exact .sub _ rfl rfl (wrap_i64 (by omega))|exact .rem _ rfl rfl (by decide) (Int.tmod_eq_emod_of_nonneg (by omega))|exact .cmpT rfl rfl rfl (by dsimp only [cmpP];omega)|exact .cmpF rfl rfl rfl (by dsimp only [cmpP];omega)))
        refine C.draw 16 (fun wq => Keep Non w3 wq) [] mixed rfl (fun w4 kw4 ew4 => ?_)
        ((refine .take 0 rfl (by kernel_rfl) rfl rfl (.move rfl) ?_); (refine .take 1 rfl (by kernel_rfl) rfl rfl (.nilCheck rfl) ?_); (refine .take 2 rfl (by kernel_rfl) rfl rfl (.fieldC rfl) ?_); (refine .read 3 rfl (by kernel_rfl) rfl rfl (by assumption) (.load rfl (fun w hw => (by (first|apply Ld.oneC|apply Ld.two|apply Ld.three|apply Ld.four|apply Ld.five);repeat(apply Keep.cell hw;(first|assumption|exact Row.cell (by assumption) (by first|rfl|assumption));first|exact non_not _|assumption|(intro e;omega)|(simp;omega))))) ?_); (refine .take 4 rfl (by kernel_rfl) rfl rfl (.move rfl) ?_); (refine .take 5 rfl (by kernel_rfl) rfl rfl (.nilCheck rfl) ?_); (refine .take 6 rfl (by kernel_rfl) rfl rfl (.fieldC rfl) ?_); (refine .read 7 rfl (by kernel_rfl) rfl rfl (by assumption) (.load rfl (fun w hw => (by (first|apply Ld.oneC|apply Ld.two|apply Ld.three|apply Ld.four|apply Ld.five);repeat(apply Keep.cell hw;(first|assumption|exact Row.cell (by assumption) (by first|rfl|assumption));first|exact non_not _|assumption|(intro e;omega)|(simp;omega))))) ?_); (refine .take 8 rfl (by kernel_rfl) rfl rfl (.move rfl) ?_); (refine .take 9 rfl (by kernel_rfl) rfl rfl (.nilCheck rfl) ?_); (refine .take 10 rfl (by kernel_rfl) rfl rfl (.fieldC rfl) ?_); (refine .read 11 rfl (by kernel_rfl) rfl rfl (by assumption) (.load rfl (fun w hw => (by (first|apply Ld.oneC|apply Ld.two|apply Ld.three|apply Ld.four|apply Ld.five);repeat(apply Keep.cell hw;(first|assumption|exact Row.cell (by assumption) (by first|rfl|assumption));first|exact non_not _|assumption|(intro e;omega)|(simp;omega))))) ?_); (refine .take 12 rfl (by kernel_rfl) rfl rfl (.move rfl) ?_))
        refine D.one 13 rfl (by kernel_rfl) rfl rfl (St.callC rfl (ihr ur w4 (fun k hk => by have := hF0 k hk; have := kw4.size; omega) (hnr.keep kw4 (fun k _ => non_not k)) (hk.keep kw4 (fun k _ => non_not k)) hfd (by omega))) (fun v5 w5 h5 => ⟨fun _ hS => hS.then h5.2, ?_⟩)
        obtain ⟨h5, k5⟩ := h5
        have k45 := kw4.then k5
        skip
        refine D.one 14 rfl (by kernel_rfl) rfl rfl (St.callC rfl (bal_spec _ ul uk ux v5 l (Tr.remove k r) nk nv w5 (hnl.up k45 (fun _ h => .inl h)) (hbk.up k45 (fun _ h => .inl h)) (hbx.up k45 (fun _ h => .inl h)) h5 (by omega))) (fun v6 w6 h6 => ⟨fun _ hS => hS.then h6.2, ?_⟩)
        obtain ⟨h6, k6⟩ := h6
        ((refine .take 15 rfl (by kernel_rfl) rfl rfl (.assign rfl) ?_))
        refine D.fin (by kernel_rfl) ?_
        (repeat first|refine .seq ?_|refine .region ?_|refine .block ?_|refine .skip ?_|refine .ret ?_|refine .exit ?_|refine .yes rfl ?_|refine .no rfl ?_|refine .nil ?_|refine .go ?_|refine .thenExit ?_|refine .thenRet ?_|refine .inExit ?_|refine .outExit rfl ?_|refine .inNormal ?_|refine .inRet ?_|refine .off rfl rfl ?_|refine .offU rfl rfl rfl ?_|(apply W.y rfl rfl;first|exact .move rfl|exact .assign rfl|exact .fieldC rfl|exact .loadW rfl (by (first|apply Ld.oneC|apply Ld.two|apply Ld.three|apply Ld.four|apply Ld.five);repeat(first|assumption|exact Row.cell (by assumption) (by first|rfl|assumption)))|exact .nilCheck rfl|exact .lenC rfl|exact .lenStrC rfl|exact .extract rfl rfl|exact .not rfl|exact .pickT rfl rfl|exact .pickF rfl rfl|exact .buildC rfl rfl|exact .indexC _ rfl rfl rfl (by omega)|exact .indexC 0 rfl rfl rfl (by omega)|exact .indexC 1 rfl rfl rfl (by omega)|exact .indexC 2 rfl rfl rfl (by omega)|exact .indexArrC _ rfl rfl rfl (by omega)|exact .indexArrC 0 rfl rfl rfl (by omega)|exact .indexArrC 1 rfl rfl rfl (by omega)|exact .indexArrC 2 rfl rfl rfl (by omega)|exact .add _ rfl rfl (wrap_i64 (by omega))|exact .sub _ rfl rfl (wrap_i64 (by omega))|exact .rem _ rfl rfl (by decide) (Int.tmod_eq_emod_of_nonneg (by omega))|exact .cmpT rfl rfl rfl (by dsimp only [cmpP];omega)|exact .cmpF rfl rfl rfl (by dsimp only [cmpP];omega)))
        have s4 := kw4.size
        have s5 := k5.size
        have s6 := k6.size
        exact E.ret1 rfl rfl ⟨h6.mono (fun k hk => by
          rcases hk with (hk | hk) | hk
          · exact .inl hk
          all_goals exact .inr ⟨by have := hk.1; omega, by have := hk.2; omega⟩), k45.then k6⟩
      · rw [if_neg h2]
        (repeat first|refine .seq ?_|refine .region ?_|refine .block ?_|refine .skip ?_|refine .ret ?_|refine .exit ?_|refine .yes rfl ?_|refine .no rfl ?_|refine .nil ?_|refine .go ?_|refine .thenExit ?_|refine .thenRet ?_|refine .inExit ?_|refine .outExit rfl ?_|refine .inNormal ?_|refine .inRet ?_|refine .off rfl rfl ?_|refine .offU rfl rfl rfl ?_|(apply W.y rfl rfl;first|exact .move rfl|exact .assign rfl|exact .fieldC rfl|exact .loadW rfl (by (first|apply Ld.oneC|apply Ld.two|apply Ld.three|apply Ld.four|apply Ld.five);repeat(first|assumption|exact Row.cell (by assumption) (by first|rfl|assumption)))|exact .nilCheck rfl|exact .lenC rfl|exact .lenStrC rfl|exact .extract rfl rfl|exact .not rfl|exact .pickT rfl rfl|exact .pickF rfl rfl|exact .buildC rfl rfl|exact .indexC _ rfl rfl rfl (by omega)|exact .indexC 0 rfl rfl rfl (by omega)|exact .indexC 1 rfl rfl rfl (by omega)|exact .indexC 2 rfl rfl rfl (by omega)|exact .indexArrC _ rfl rfl rfl (by omega)|exact .indexArrC 0 rfl rfl rfl (by omega)|exact .indexArrC 1 rfl rfl rfl (by omega)|exact .indexArrC 2 rfl rfl rfl (by omega)|exact .add _ rfl rfl (wrap_i64 (by omega))|exact .sub _ rfl rfl (wrap_i64 (by omega))|exact .rem _ rfl rfl (by decide) (Int.tmod_eq_emod_of_nonneg (by omega))|exact .cmpT rfl rfl rfl (by dsimp only [cmpP];omega)|exact .cmpF rfl rfl rfl (by dsimp only [cmpP];omega)))
        cases r with
        | nil =>
          cases hnr
          refine W.y rfl rfl (Y.eqlPtrNilC rfl rfl) ?_
          (repeat first|refine .seq ?_|refine .region ?_|refine .block ?_|refine .skip ?_|refine .ret ?_|refine .exit ?_|refine .yes rfl ?_|refine .no rfl ?_|refine .nil ?_|refine .go ?_|refine .thenExit ?_|refine .thenRet ?_|refine .inExit ?_|refine .outExit rfl ?_|refine .inNormal ?_|refine .inRet ?_|refine .off rfl rfl ?_|refine .offU rfl rfl rfl ?_|(apply W.y rfl rfl;first|exact .move rfl|exact .assign rfl|exact .fieldC rfl|exact .loadW rfl (by (first|apply Ld.oneC|apply Ld.two|apply Ld.three|apply Ld.four|apply Ld.five);repeat(first|assumption|exact Row.cell (by assumption) (by first|rfl|assumption)))|exact .nilCheck rfl|exact .lenC rfl|exact .lenStrC rfl|exact .extract rfl rfl|exact .not rfl|exact .pickT rfl rfl|exact .pickF rfl rfl|exact .buildC rfl rfl|exact .indexC _ rfl rfl rfl (by omega)|exact .indexC 0 rfl rfl rfl (by omega)|exact .indexC 1 rfl rfl rfl (by omega)|exact .indexC 2 rfl rfl rfl (by omega)|exact .indexArrC _ rfl rfl rfl (by omega)|exact .indexArrC 0 rfl rfl rfl (by omega)|exact .indexArrC 1 rfl rfl rfl (by omega)|exact .indexArrC 2 rfl rfl rfl (by omega)|exact .add _ rfl rfl (wrap_i64 (by omega))|exact .sub _ rfl rfl (wrap_i64 (by omega))|exact .rem _ rfl rfl (by decide) (Int.tmod_eq_emod_of_nonneg (by omega))|exact .cmpT rfl rfl rfl (by dsimp only [cmpP];omega)|exact .cmpF rfl rfl rfl (by dsimp only [cmpP];omega)))
          exact E.ret1 rfl rfl ⟨hnl.mono (fun _ h => .inl h), Keep.refl _ _⟩
        | node rl rk rv rr =>
          obtain ⟨br, vrk, vrx, vrl, vrr, rfl, hFr, hrowr, hbkr, hbxr, hnrl, hnrr⟩ := id hnr
          simp only [Tr.count] at hc
          refine W.y rfl rfl (Y.eqlPtrNilC rfl rfl) ?_
          (repeat first|refine .seq ?_|refine .region ?_|refine .block ?_|refine .skip ?_|refine .ret ?_|refine .exit ?_|refine .yes rfl ?_|refine .no rfl ?_|refine .nil ?_|refine .go ?_|refine .thenExit ?_|refine .thenRet ?_|refine .inExit ?_|refine .outExit rfl ?_|refine .inNormal ?_|refine .inRet ?_|refine .off rfl rfl ?_|refine .offU rfl rfl rfl ?_|(apply W.y rfl rfl;first|exact .move rfl|exact .assign rfl|exact .fieldC rfl|exact .loadW rfl (by (first|apply Ld.oneC|apply Ld.two|apply Ld.three|apply Ld.four|apply Ld.five);repeat(first|assumption|exact Row.cell (by assumption) (by first|rfl|assumption)))|exact .nilCheck rfl|exact .lenC rfl|exact .lenStrC rfl|exact .extract rfl rfl|exact .not rfl|exact .pickT rfl rfl|exact .pickF rfl rfl|exact .buildC rfl rfl|exact .indexC _ rfl rfl rfl (by omega)|exact .indexC 0 rfl rfl rfl (by omega)|exact .indexC 1 rfl rfl rfl (by omega)|exact .indexC 2 rfl rfl rfl (by omega)|exact .indexArrC _ rfl rfl rfl (by omega)|exact .indexArrC 0 rfl rfl rfl (by omega)|exact .indexArrC 1 rfl rfl rfl (by omega)|exact .indexArrC 2 rfl rfl rfl (by omega)|exact .add _ rfl rfl (wrap_i64 (by omega))|exact .sub _ rfl rfl (wrap_i64 (by omega))|exact .rem _ rfl rfl (by decide) (Int.tmod_eq_emod_of_nonneg (by omega))|exact .cmpT rfl rfl rfl (by dsimp only [cmpP];omega)|exact .cmpF rfl rfl rfl (by dsimp only [cmpP];omega)))
          refine W.st rfl rfl (St.callC rfl (first_spec F (.node rl rk rv rr) _ w3 hF0 hnr (by simp only [Tr.count]; omega) (by simp only [Tr.count]; omega))) (fun v4 w4 h4 => ?_)
          obtain ⟨sk, sx, sn, rfl, h4k, h4x, h4n, k4⟩ := h4
          have s4 := k4.size
          (repeat first|refine .seq ?_|refine .region ?_|refine .block ?_|refine .skip ?_|refine .ret ?_|refine .exit ?_|refine .yes rfl ?_|refine .no rfl ?_|refine .nil ?_|refine .go ?_|refine .thenExit ?_|refine .thenRet ?_|refine .inExit ?_|refine .outExit rfl ?_|refine .inNormal ?_|refine .inRet ?_|refine .off rfl rfl ?_|refine .offU rfl rfl rfl ?_|(apply W.y rfl rfl;first|exact .move rfl|exact .assign rfl|exact .fieldC rfl|exact .loadW rfl (by (first|apply Ld.oneC|apply Ld.two|apply Ld.three|apply Ld.four|apply Ld.five);repeat(first|assumption|exact Row.cell (by assumption) (by first|rfl|assumption)))|exact .nilCheck rfl|exact .lenC rfl|exact .lenStrC rfl|exact .extract rfl rfl|exact .not rfl|exact .pickT rfl rfl|exact .pickF rfl rfl|exact .buildC rfl rfl|exact .indexC _ rfl rfl rfl (by omega)|exact .indexC 0 rfl rfl rfl (by omega)|exact .indexC 1 rfl rfl rfl (by omega)|exact .indexC 2 rfl rfl rfl (by omega)|exact .indexArrC _ rfl rfl rfl (by omega)|exact .indexArrC 0 rfl rfl rfl (by omega)|exact .indexArrC 1 rfl rfl rfl (by omega)|exact .indexArrC 2 rfl rfl rfl (by omega)|exact .add _ rfl rfl (wrap_i64 (by omega))|exact .sub _ rfl rfl (wrap_i64 (by omega))|exact .rem _ rfl rfl (by decide) (Int.tmod_eq_emod_of_nonneg (by omega))|exact .cmpT rfl rfl rfl (by dsimp only [cmpP];omega)|exact .cmpF rfl rfl rfl (by dsimp only [cmpP];omega)))
          refine W.st rfl rfl St.allocC (fun v5 w5 hv => ?_)
          obtain ⟨b5, rfl, hN5⟩ := hv
          have hr5 := hN5.row
          have s5 := hN5.size
          have a5 := hN5.at_
          refine W.st0 rfl (St.storeC rfl rfl rfl hr5 (by simp [Value.cells]) (one2 (slice_one h4k) (slice_one h4x))) (fun v6 w6 h6 => ?_)
          have hr6 := h6.row
          have s6 := h6.size
          have k46 : Keep Non w4 w6 := hN5.keep.put h6 (by omega)
          have k6 := k4.then k46
          have hrow6 := hrow.keep k6 (non_not _)
          have fc := Tr.first_count (.node rl rk rv rr)
          simp only [Tr.count] at fc
          (repeat first|refine .seq ?_|refine .region ?_|refine .block ?_|refine .skip ?_|refine .ret ?_|refine .exit ?_|refine .yes rfl ?_|refine .no rfl ?_|refine .nil ?_|refine .go ?_|refine .thenExit ?_|refine .thenRet ?_|refine .inExit ?_|refine .outExit rfl ?_|refine .inNormal ?_|refine .inRet ?_|refine .off rfl rfl ?_|refine .offU rfl rfl rfl ?_|(apply W.y rfl rfl;first|exact .move rfl|exact .assign rfl|exact .fieldC rfl|exact .loadW rfl (by (first|apply Ld.oneC|apply Ld.two|apply Ld.three|apply Ld.four|apply Ld.five);repeat(first|assumption|exact Row.cell (by assumption) (by first|rfl|assumption)))|exact .nilCheck rfl|exact .lenC rfl|exact .lenStrC rfl|exact .extract rfl rfl|exact .not rfl|exact .pickT rfl rfl|exact .pickF rfl rfl|exact .buildC rfl rfl|exact .indexC _ rfl rfl rfl (by omega)|exact .indexC 0 rfl rfl rfl (by omega)|exact .indexC 1 rfl rfl rfl (by omega)|exact .indexC 2 rfl rfl rfl (by omega)|exact .indexArrC _ rfl rfl rfl (by omega)|exact .indexArrC 0 rfl rfl rfl (by omega)|exact .indexArrC 1 rfl rfl rfl (by omega)|exact .indexArrC 2 rfl rfl rfl (by omega)|exact .add _ rfl rfl (wrap_i64 (by omega))|exact .sub _ rfl rfl (wrap_i64 (by omega))|exact .rem _ rfl rfl (by decide) (Int.tmod_eq_emod_of_nonneg (by omega))|exact .cmpT rfl rfl rfl (by dsimp only [cmpP];omega)|exact .cmpF rfl rfl rfl (by dsimp only [cmpP];omega)))
          refine C.draw 8 (fun wq => Keep Non w6 wq) [] mixed rfl (fun w7 kw7 ew7 => ?_)
          have k7 := k6.then kw7
          have k47 := k46.then kw7
          ((refine .take 0 rfl (by kernel_rfl) rfl rfl (.move rfl) ?_); (refine .take 1 rfl (by kernel_rfl) rfl rfl (.nilCheck rfl) ?_); (refine .take 2 rfl (by kernel_rfl) rfl rfl (.fieldC rfl) ?_); (refine .read 3 rfl (by kernel_rfl) rfl rfl (by assumption) (.load rfl (fun w hw => (by (first|apply Ld.oneC|apply Ld.two|apply Ld.three|apply Ld.four|apply Ld.five);repeat(apply Keep.cell hw;(first|assumption|exact Row.cell (by assumption) (by first|rfl|assumption));first|exact non_not _|assumption|(intro e;omega)|(simp;omega))))) ?_); (refine .read 4 rfl (by kernel_rfl) rfl rfl (by assumption) (.load rfl (fun w hw => (by (first|apply Ld.oneC|apply Ld.two|apply Ld.three|apply Ld.four|apply Ld.five);repeat(apply Keep.cell hw;(first|assumption|exact Row.cell (by assumption) (by first|rfl|assumption));first|exact non_not _|assumption|(intro e;omega)|(simp;omega))))) ?_); (refine .take 5 rfl (by kernel_rfl) rfl rfl (.move rfl) ?_))
          refine D.one 6 rfl (by kernel_rfl) rfl rfl (St.callC rfl (bal_spec (fun k => F k ∨ Fresh w3 w4 k) ul sk sx sn l (Tr.first (.node rl rk rv rr)).2 _ _ w7 (hnl.up k7 (fun _ h => .inl h)) (h4k.up k47 (fun _ h => .inl h)) (h4x.up k47 (fun _ h => .inl h)) (h4n.up k47 (fun _ h => h)) (by omega))) (fun v8 w8 h8 => ⟨fun _ hS => hS.then h8.2, ?_⟩)
          obtain ⟨h8, k8⟩ := h8
          ((refine .take 7 rfl (by kernel_rfl) rfl rfl (.assign rfl) ?_))
          refine D.fin (by kernel_rfl) ?_
          (repeat first|refine .seq ?_|refine .region ?_|refine .block ?_|refine .skip ?_|refine .ret ?_|refine .exit ?_|refine .yes rfl ?_|refine .no rfl ?_|refine .nil ?_|refine .go ?_|refine .thenExit ?_|refine .thenRet ?_|refine .inExit ?_|refine .outExit rfl ?_|refine .inNormal ?_|refine .inRet ?_|refine .off rfl rfl ?_|refine .offU rfl rfl rfl ?_|(apply W.y rfl rfl;first|exact .move rfl|exact .assign rfl|exact .fieldC rfl|exact .loadW rfl (by (first|apply Ld.oneC|apply Ld.two|apply Ld.three|apply Ld.four|apply Ld.five);repeat(first|assumption|exact Row.cell (by assumption) (by first|rfl|assumption)))|exact .nilCheck rfl|exact .lenC rfl|exact .lenStrC rfl|exact .extract rfl rfl|exact .not rfl|exact .pickT rfl rfl|exact .pickF rfl rfl|exact .buildC rfl rfl|exact .indexC _ rfl rfl rfl (by omega)|exact .indexC 0 rfl rfl rfl (by omega)|exact .indexC 1 rfl rfl rfl (by omega)|exact .indexC 2 rfl rfl rfl (by omega)|exact .indexArrC _ rfl rfl rfl (by omega)|exact .indexArrC 0 rfl rfl rfl (by omega)|exact .indexArrC 1 rfl rfl rfl (by omega)|exact .indexArrC 2 rfl rfl rfl (by omega)|exact .add _ rfl rfl (wrap_i64 (by omega))|exact .sub _ rfl rfl (wrap_i64 (by omega))|exact .rem _ rfl rfl (by decide) (Int.tmod_eq_emod_of_nonneg (by omega))|exact .cmpT rfl rfl rfl (by dsimp only [cmpP];omega)|exact .cmpF rfl rfl rfl (by dsimp only [cmpP];omega)))
          have s7 := kw7.size
          have s8 := k8.size
          exact E.ret1 rfl rfl ⟨h8.mono (fun k hk => by
            rcases hk with (hk | hk) | hk
            · exact .inl hk
            all_goals exact .inr ⟨by have := hk.1; omega, by have := hk.2; omega⟩), k7.then k8⟩
end Go.Proofs.Ytmneommbdfapfaa
