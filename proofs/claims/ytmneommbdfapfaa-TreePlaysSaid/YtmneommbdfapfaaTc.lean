/- tree.put, first, remove. -/
import Derived.Test.YtmneommbdfapfaaTb
namespace Go.Proofs.Ytmneommbdfapfaa
open Vb Go.RowKit

theorem Tr.bal_count (l : Tr) (k v : Bs) (r : Tr) : (l.bal k v r).count = 1 + l.count + r.count := by
  unfold Tr.bal
  split
  · rename_i h
    cases l with
    | nil => rfl
    | node ll lk lv lr =>
      simp only
      split
      · simp only [Tr.count]; omega
      · rename_i h2
        cases lr with
        | nil => simp [Tr.depth] at h2
        | node m1 mk mv m2 => simp only [Tr.count]; omega
  · split
    · rename_i h
      cases r with
      | nil => rfl
      | node rl rk rv rr =>
        simp only
        split
        · simp only [Tr.count]; omega
        · rename_i h2
          cases rl with
          | nil => simp [Tr.depth] at h2
          | node m1 mk mv m2 => simp only [Tr.count]; omega
    · simp only [Tr.count]

def Tr.put (k x : Bs) : Tr → Tr
  | .nil => .node .nil k x .nil
  | .node l nk nv r =>
    if Lib.compareBytes k nk < 0 then (Tr.put k x l).bal nk nv r
    else if 0 < Lib.compareBytes k nk then l.bal nk nv (Tr.put k x r)
    else .node l k x r
theorem Tr.put_count (k x : Bs) : ∀ t : Tr, (t.put k x).count ≤ t.count + 1 ∧ t.count ≤ (t.put k x).count
  | .nil => by simp [Tr.put, Tr.count]
  | .node l nk nv r => by
    have h1 := Tr.put_count k x l
    have h2 := Tr.put_count k x r
    unfold Tr.put
    split
    · rw [Tr.bal_count]; simp only [Tr.count]; omega
    · split
      · rw [Tr.bal_count]; simp only [Tr.count]; omega
      · simp only [Tr.count]; omega

set_option maxHeartbeats 6400000 in
theorem put_spec (F : Nat → Prop) (vk vx : Value) (k x : Bs) : ∀ (t : Tr) (v : Value) (w : World), NodeAt F w v t → Bytes F w vk k → Bytes F w vx x → t.count ≤ 274877906944 →
    Meets Try.prog 24 #[v, .agg #[vk, vx]] w (fun r w' => NodeAt (fun k => F k ∨ Fresh w w' k) w' r (t.put k x) ∧ Keep Non w w') := by
  intro t
  induction t with
  | nil =>
    intro v w ht hk hx hc
    cases ht
    obtain ⟨Ak, ck, rfl, _⟩ := id hk
    obtain ⟨Ax, cx, rfl, _⟩ := id hx
    refine Meets.enter Try.func24 Try.ntmps24 rfl rfl ?_
    (repeat first|refine .seq ?_|refine .region ?_|refine .block ?_|refine .skip ?_|refine .ret ?_|refine .exit ?_|refine .yes rfl ?_|refine .no rfl ?_|refine .nil ?_|refine .go ?_|refine .thenExit ?_|refine .thenRet ?_|refine .inExit ?_|refine .outExit rfl ?_|refine .inNormal ?_|refine .inRet ?_|refine .off rfl rfl ?_|refine .offU rfl rfl rfl ?_|(apply W.y rfl rfl;first|exact .move rfl|exact .assign rfl|exact .fieldC rfl|exact .loadW rfl (by (first|apply Ld.oneC|apply Ld.two|apply Ld.three|apply Ld.four|apply Ld.five);repeat(first|assumption|exact Row.cell (by assumption) (by first|rfl|assumption)))|exact .nilCheck rfl|exact .lenC rfl|exact .lenStrC rfl|exact .extract rfl rfl|exact .not rfl|exact .pickT rfl rfl|exact .pickF rfl rfl|exact .buildC rfl rfl|exact .indexC _ rfl rfl rfl (by omega)|exact .indexC 0 rfl rfl rfl (by omega)|exact .indexC 1 rfl rfl rfl (by omega)|exact .indexC 2 rfl rfl rfl (by omega)|exact .indexArrC _ rfl rfl rfl (by omega)|exact .indexArrC 0 rfl rfl rfl (by omega)|exact .indexArrC 1 rfl rfl rfl (by omega)|exact .indexArrC 2 rfl rfl rfl (by omega)|exact .add _ rfl rfl (wrap_i64 (by omega))|exact .sub _ rfl rfl (wrap_i64 (by omega))|exact .rem _ rfl rfl (by decide) (Int.tmod_eq_emod_of_nonneg (by omega))|exact .cmpT rfl rfl rfl (by dsimp only [cmpP];omega)|exact .cmpF rfl rfl rfl (by dsimp only [cmpP];omega)))
    refine W.st rfl rfl (St.box rfl) (fun v1 w1 hv => ?_)
    obtain ⟨b1, rfl, hN1⟩ := hv
    have hr1 := hN1.row
    have s1 := hN1.size
    have k1 := hN1.keep
    (repeat first|refine .seq ?_|refine .region ?_|refine .block ?_|refine .skip ?_|refine .ret ?_|refine .exit ?_|refine .yes rfl ?_|refine .no rfl ?_|refine .nil ?_|refine .go ?_|refine .thenExit ?_|refine .thenRet ?_|refine .inExit ?_|refine .outExit rfl ?_|refine .inNormal ?_|refine .inRet ?_|refine .off rfl rfl ?_|refine .offU rfl rfl rfl ?_|(apply W.y rfl rfl;first|exact .move rfl|exact .assign rfl|exact .fieldC rfl|exact .loadW rfl (by (first|apply Ld.oneC|apply Ld.two|apply Ld.three|apply Ld.four|apply Ld.five);repeat(first|assumption|exact Row.cell (by assumption) (by first|rfl|assumption)))|exact .nilCheck rfl|exact .lenC rfl|exact .lenStrC rfl|exact .extract rfl rfl|exact .not rfl|exact .pickT rfl rfl|exact .pickF rfl rfl|exact .buildC rfl rfl|exact .indexC _ rfl rfl rfl (by omega)|exact .indexC 0 rfl rfl rfl (by omega)|exact .indexC 1 rfl rfl rfl (by omega)|exact .indexC 2 rfl rfl rfl (by omega)|exact .indexArrC _ rfl rfl rfl (by omega)|exact .indexArrC 0 rfl rfl rfl (by omega)|exact .indexArrC 1 rfl rfl rfl (by omega)|exact .indexArrC 2 rfl rfl rfl (by omega)|exact .add _ rfl rfl (wrap_i64 (by omega))|exact .sub _ rfl rfl (wrap_i64 (by omega))|exact .rem _ rfl rfl (by decide) (Int.tmod_eq_emod_of_nonneg (by omega))|exact .cmpT rfl rfl rfl (by dsimp only [cmpP];omega)|exact .cmpF rfl rfl rfl (by dsimp only [cmpP];omega)))
    refine W.y rfl rfl (Y.eqlPtrNilC rfl rfl) ?_
    (repeat first|refine .seq ?_|refine .region ?_|refine .block ?_|refine .skip ?_|refine .ret ?_|refine .exit ?_|refine .yes rfl ?_|refine .no rfl ?_|refine .nil ?_|refine .go ?_|refine .thenExit ?_|refine .thenRet ?_|refine .inExit ?_|refine .outExit rfl ?_|refine .inNormal ?_|refine .inRet ?_|refine .off rfl rfl ?_|refine .offU rfl rfl rfl ?_|(apply W.y rfl rfl;first|exact .move rfl|exact .assign rfl|exact .fieldC rfl|exact .loadW rfl (by (first|apply Ld.oneC|apply Ld.two|apply Ld.three|apply Ld.four|apply Ld.five);repeat(first|assumption|exact Row.cell (by assumption) (by first|rfl|assumption)))|exact .nilCheck rfl|exact .lenC rfl|exact .lenStrC rfl|exact .extract rfl rfl|exact .not rfl|exact .pickT rfl rfl|exact .pickF rfl rfl|exact .buildC rfl rfl|exact .indexC _ rfl rfl rfl (by omega)|exact .indexC 0 rfl rfl rfl (by omega)|exact .indexC 1 rfl rfl rfl (by omega)|exact .indexC 2 rfl rfl rfl (by omega)|exact .indexArrC _ rfl rfl rfl (by omega)|exact .indexArrC 0 rfl rfl rfl (by omega)|exact .indexArrC 1 rfl rfl rfl (by omega)|exact .indexArrC 2 rfl rfl rfl (by omega)|exact .add _ rfl rfl (wrap_i64 (by omega))|exact .sub _ rfl rfl (wrap_i64 (by omega))|exact .rem _ rfl rfl (by decide) (Int.tmod_eq_emod_of_nonneg (by omega))|exact .cmpT rfl rfl rfl (by dsimp only [cmpP];omega)|exact .cmpF rfl rfl rfl (by dsimp only [cmpP];omega)))
    refine W.st rfl rfl (St.callC rfl (join_spec F _ _ _ _ .nil .nil k x w1 rfl (hk.keep k1 (fun k _ => non_not k)) (hx.keep k1 (fun k _ => non_not k)) rfl (by simp [Tr.count]))) (fun v7 w7 h7 => ?_)
    obtain ⟨h7, k7⟩ := h7
    (repeat first|refine .seq ?_|refine .region ?_|refine .block ?_|refine .skip ?_|refine .ret ?_|refine .exit ?_|refine .yes rfl ?_|refine .no rfl ?_|refine .nil ?_|refine .go ?_|refine .thenExit ?_|refine .thenRet ?_|refine .inExit ?_|refine .outExit rfl ?_|refine .inNormal ?_|refine .inRet ?_|refine .off rfl rfl ?_|refine .offU rfl rfl rfl ?_|(apply W.y rfl rfl;first|exact .move rfl|exact .assign rfl|exact .fieldC rfl|exact .loadW rfl (by (first|apply Ld.oneC|apply Ld.two|apply Ld.three|apply Ld.four|apply Ld.five);repeat(first|assumption|exact Row.cell (by assumption) (by first|rfl|assumption)))|exact .nilCheck rfl|exact .lenC rfl|exact .lenStrC rfl|exact .extract rfl rfl|exact .not rfl|exact .pickT rfl rfl|exact .pickF rfl rfl|exact .buildC rfl rfl|exact .indexC _ rfl rfl rfl (by omega)|exact .indexC 0 rfl rfl rfl (by omega)|exact .indexC 1 rfl rfl rfl (by omega)|exact .indexC 2 rfl rfl rfl (by omega)|exact .indexArrC _ rfl rfl rfl (by omega)|exact .indexArrC 0 rfl rfl rfl (by omega)|exact .indexArrC 1 rfl rfl rfl (by omega)|exact .indexArrC 2 rfl rfl rfl (by omega)|exact .add _ rfl rfl (wrap_i64 (by omega))|exact .sub _ rfl rfl (wrap_i64 (by omega))|exact .rem _ rfl rfl (by decide) (Int.tmod_eq_emod_of_nonneg (by omega))|exact .cmpT rfl rfl rfl (by dsimp only [cmpP];omega)|exact .cmpF rfl rfl rfl (by dsimp only [cmpP];omega)))
    exact E.ret1 rfl rfl ⟨h7.mono (fun k hk => by
      rcases hk with hk | hk
      · exact .inl hk
      · exact .inr ⟨by have := hk.1; omega, by have := hk.2; omega⟩), k1.then k7⟩
  | node l nk nv r ihl ihr =>
    intro v w ht hk hx hc
    obtain ⟨b, uk, ux, ul, ur, rfl, hF, hrow, hbk, hbx, hnl, hnr⟩ := ht
    obtain ⟨Ak, ck, rfl, _⟩ := id hk
    obtain ⟨Ax, cx, rfl, _⟩ := id hx
    simp only [Tr.count] at hc
    have cl := l.put_count k x
    have cr := r.put_count k x
    refine Meets.enter Try.func24 Try.ntmps24 rfl rfl ?_
    (repeat first|refine .seq ?_|refine .region ?_|refine .block ?_|refine .skip ?_|refine .ret ?_|refine .exit ?_|refine .yes rfl ?_|refine .no rfl ?_|refine .nil ?_|refine .go ?_|refine .thenExit ?_|refine .thenRet ?_|refine .inExit ?_|refine .outExit rfl ?_|refine .inNormal ?_|refine .inRet ?_|refine .off rfl rfl ?_|refine .offU rfl rfl rfl ?_|(apply W.y rfl rfl;first|exact .move rfl|exact .assign rfl|exact .fieldC rfl|exact .loadW rfl (by (first|apply Ld.oneC|apply Ld.two|apply Ld.three|apply Ld.four|apply Ld.five);repeat(first|assumption|exact Row.cell (by assumption) (by first|rfl|assumption)))|exact .nilCheck rfl|exact .lenC rfl|exact .lenStrC rfl|exact .extract rfl rfl|exact .not rfl|exact .pickT rfl rfl|exact .pickF rfl rfl|exact .buildC rfl rfl|exact .indexC _ rfl rfl rfl (by omega)|exact .indexC 0 rfl rfl rfl (by omega)|exact .indexC 1 rfl rfl rfl (by omega)|exact .indexC 2 rfl rfl rfl (by omega)|exact .indexArrC _ rfl rfl rfl (by omega)|exact .indexArrC 0 rfl rfl rfl (by omega)|exact .indexArrC 1 rfl rfl rfl (by omega)|exact .indexArrC 2 rfl rfl rfl (by omega)|exact .add _ rfl rfl (wrap_i64 (by omega))|exact .sub _ rfl rfl (wrap_i64 (by omega))|exact .rem _ rfl rfl (by decide) (Int.tmod_eq_emod_of_nonneg (by omega))|exact .cmpT rfl rfl rfl (by dsimp only [cmpP];omega)|exact .cmpF rfl rfl rfl (by dsimp only [cmpP];omega)))
    refine W.st rfl rfl (St.box rfl) (fun v1 w1 hv => ?_)
    obtain ⟨b1, rfl, hN1⟩ := hv
    have hr1 := hN1.row
    have s1 := hN1.size
    have k1 := hN1.keep
    have hrow1 := hrow.keep k1 (non_not _)
    (repeat first|refine .seq ?_|refine .region ?_|refine .block ?_|refine .skip ?_|refine .ret ?_|refine .exit ?_|refine .yes rfl ?_|refine .no rfl ?_|refine .nil ?_|refine .go ?_|refine .thenExit ?_|refine .thenRet ?_|refine .inExit ?_|refine .outExit rfl ?_|refine .inNormal ?_|refine .inRet ?_|refine .off rfl rfl ?_|refine .offU rfl rfl rfl ?_|(apply W.y rfl rfl;first|exact .move rfl|exact .assign rfl|exact .fieldC rfl|exact .loadW rfl (by (first|apply Ld.oneC|apply Ld.two|apply Ld.three|apply Ld.four|apply Ld.five);repeat(first|assumption|exact Row.cell (by assumption) (by first|rfl|assumption)))|exact .nilCheck rfl|exact .lenC rfl|exact .lenStrC rfl|exact .extract rfl rfl|exact .not rfl|exact .pickT rfl rfl|exact .pickF rfl rfl|exact .buildC rfl rfl|exact .indexC _ rfl rfl rfl (by omega)|exact .indexC 0 rfl rfl rfl (by omega)|exact .indexC 1 rfl rfl rfl (by omega)|exact .indexC 2 rfl rfl rfl (by omega)|exact .indexArrC _ rfl rfl rfl (by omega)|exact .indexArrC 0 rfl rfl rfl (by omega)|exact .indexArrC 1 rfl rfl rfl (by omega)|exact .indexArrC 2 rfl rfl rfl (by omega)|exact .add _ rfl rfl (wrap_i64 (by omega))|exact .sub _ rfl rfl (wrap_i64 (by omega))|exact .rem _ rfl rfl (by decide) (Int.tmod_eq_emod_of_nonneg (by omega))|exact .cmpT rfl rfl rfl (by dsimp only [cmpP];omega)|exact .cmpF rfl rfl rfl (by dsimp only [cmpP];omega)))
    refine W.y rfl rfl (Y.eqlPtrNilC rfl rfl) ?_
    (repeat first|refine .seq ?_|refine .region ?_|refine .block ?_|refine .skip ?_|refine .ret ?_|refine .exit ?_|refine .yes rfl ?_|refine .no rfl ?_|refine .nil ?_|refine .go ?_|refine .thenExit ?_|refine .thenRet ?_|refine .inExit ?_|refine .outExit rfl ?_|refine .inNormal ?_|refine .inRet ?_|refine .off rfl rfl ?_|refine .offU rfl rfl rfl ?_|(apply W.y rfl rfl;first|exact .move rfl|exact .assign rfl|exact .fieldC rfl|exact .loadW rfl (by (first|apply Ld.oneC|apply Ld.two|apply Ld.three|apply Ld.four|apply Ld.five);repeat(first|assumption|exact Row.cell (by assumption) (by first|rfl|assumption)))|exact .nilCheck rfl|exact .lenC rfl|exact .lenStrC rfl|exact .extract rfl rfl|exact .not rfl|exact .pickT rfl rfl|exact .pickF rfl rfl|exact .buildC rfl rfl|exact .indexC _ rfl rfl rfl (by omega)|exact .indexC 0 rfl rfl rfl (by omega)|exact .indexC 1 rfl rfl rfl (by omega)|exact .indexC 2 rfl rfl rfl (by omega)|exact .indexArrC _ rfl rfl rfl (by omega)|exact .indexArrC 0 rfl rfl rfl (by omega)|exact .indexArrC 1 rfl rfl rfl (by omega)|exact .indexArrC 2 rfl rfl rfl (by omega)|exact .add _ rfl rfl (wrap_i64 (by omega))|exact .sub _ rfl rfl (wrap_i64 (by omega))|exact .rem _ rfl rfl (by decide) (Int.tmod_eq_emod_of_nonneg (by omega))|exact .cmpT rfl rfl rfl (by dsimp only [cmpP];omega)|exact .cmpF rfl rfl rfl (by dsimp only [cmpP];omega)))
    refine C.draw 9 (fun wq => Keep Non w1 wq) [] mixed rfl (fun w2 kw2 ew2 => ?_)
    have k2 := k1.then kw2
    ((refine .take 0 rfl (by kernel_rfl) rfl rfl (.fieldC rfl) ?_); (refine .read 1 rfl (by kernel_rfl) rfl rfl (by assumption) (.load rfl (fun w hw => (by (first|apply Ld.oneC|apply Ld.two|apply Ld.three|apply Ld.four|apply Ld.five);repeat(apply Keep.cell hw;(first|assumption|exact Row.cell (by assumption) (by first|rfl|assumption));first|exact non_not _|assumption|(intro e;omega)|(simp;omega))))) ?_); (refine .take 2 rfl (by kernel_rfl) rfl rfl (.move rfl) ?_); (refine .take 3 rfl (by kernel_rfl) rfl rfl (.nilCheck rfl) ?_); (refine .take 4 rfl (by kernel_rfl) rfl rfl (.fieldC rfl) ?_); (refine .take 5 rfl (by kernel_rfl) rfl rfl (.fieldC rfl) ?_); (refine .read 6 rfl (by kernel_rfl) rfl rfl (by assumption) (.load rfl (fun w hw => (by (first|apply Ld.oneC|apply Ld.two|apply Ld.three|apply Ld.four|apply Ld.five);repeat(apply Keep.cell hw;(first|assumption|exact Row.cell (by assumption) (by first|rfl|assumption));first|exact non_not _|assumption|(intro e;omega)|(simp;omega))))) ?_))
    refine D.one 7 rfl (by kernel_rfl) rfl rfl (St.callC rfl (compare_spec F F _ _ k nk w2 (hk.keep k2 (fun k _ => non_not k)) (hbk.keep k2 (fun k _ => non_not k)))) (fun v3 w3 h3 => ⟨fun _ hS => by obtain ⟨_, rfl⟩ := h3; exact hS, ?_⟩)
    obtain ⟨rfl, rfl⟩ := h3
    have hrow2 := hrow1.keep kw2 (non_not _)
    have hr2 := hr1.keep kw2 (non_not _)
    have s2 := k2.size
    ((refine .take 8 rfl (by kernel_rfl) rfl rfl (.assign rfl) ?_))
    refine D.fin (by kernel_rfl) ?_
    unfold Tr.put
    by_cases h1 : Lib.compareBytes k nk < 0
    · rw [if_pos h1]
      (repeat first|refine .seq ?_|refine .region ?_|refine .block ?_|refine .skip ?_|refine .ret ?_|refine .exit ?_|refine .yes rfl ?_|refine .no rfl ?_|refine .nil ?_|refine .go ?_|refine .thenExit ?_|refine .thenRet ?_|refine .inExit ?_|refine .outExit rfl ?_|refine .inNormal ?_|refine .inRet ?_|refine .off rfl rfl ?_|refine .offU rfl rfl rfl ?_|(apply W.y rfl rfl;first|exact .move rfl|exact .assign rfl|exact .fieldC rfl|exact .loadW rfl (by (first|apply Ld.oneC|apply Ld.two|apply Ld.three|apply Ld.four|apply Ld.five);repeat(first|assumption|exact Row.cell (by assumption) (by first|rfl|assumption)))|exact .nilCheck rfl|exact .lenC rfl|exact .lenStrC rfl|exact .extract rfl rfl|exact .not rfl|exact .pickT rfl rfl|exact .pickF rfl rfl|exact .buildC rfl rfl|exact .indexC _ rfl rfl rfl (by omega)|exact .indexC 0 rfl rfl rfl (by omega)|exact .indexC 1 rfl rfl rfl (by omega)|exact .indexC 2 rfl rfl rfl (by omega)|exact .indexArrC _ rfl rfl rfl (by omega)|exact .indexArrC 0 rfl rfl rfl (by omega)|exact .indexArrC 1 rfl rfl rfl (by omega)|exact .indexArrC 2 rfl rfl rfl (by omega)|exact .add _ rfl rfl (wrap_i64 (by omega))|exact .sub _ rfl rfl (wrap_i64 (by omega))|exact .rem _ rfl rfl (by decide) (Int.tmod_eq_emod_of_nonneg (by omega))|exact .cmpT rfl rfl rfl (by dsimp only [cmpP];omega)|exact .cmpF rfl rfl rfl (by dsimp only [cmpP];omega)))
      refine C.draw 16 (fun wq => Keep Non w3 wq) [] mixed rfl (fun w4 kw4 ew4 => ?_)
      have k4 := k2.then kw4
      ((refine .take 0 rfl (by kernel_rfl) rfl rfl (.move rfl) ?_); (refine .take 1 rfl (by kernel_rfl) rfl rfl (.nilCheck rfl) ?_); (refine .take 2 rfl (by kernel_rfl) rfl rfl (.fieldC rfl) ?_); (refine .read 3 rfl (by kernel_rfl) rfl rfl (by assumption) (.load rfl (fun w hw => (by (first|apply Ld.oneC|apply Ld.two|apply Ld.three|apply Ld.four|apply Ld.five);repeat(apply Keep.cell hw;(first|assumption|exact Row.cell (by assumption) (by first|rfl|assumption));first|exact non_not _|assumption|(intro e;omega)|(simp;omega))))) ?_); (refine .read 4 rfl (by kernel_rfl) rfl rfl (by assumption) (.load rfl (fun w hw => (by (first|apply Ld.oneC|apply Ld.two|apply Ld.three|apply Ld.four|apply Ld.five);repeat(apply Keep.cell hw;(first|assumption|exact Row.cell (by assumption) (by first|rfl|assumption));first|exact non_not _|assumption|(intro e;omega)|(simp;omega))))) ?_); (refine .take 6 rfl (by kernel_rfl) rfl rfl (.move rfl) ?_); (refine .take 7 rfl (by kernel_rfl) rfl rfl (.nilCheck rfl) ?_); (refine .take 8 rfl (by kernel_rfl) rfl rfl (.fieldC rfl) ?_); (refine .read 9 rfl (by kernel_rfl) rfl rfl (by assumption) (.load rfl (fun w hw => (by (first|apply Ld.oneC|apply Ld.two|apply Ld.three|apply Ld.four|apply Ld.five);repeat(apply Keep.cell hw;(first|assumption|exact Row.cell (by assumption) (by first|rfl|assumption));first|exact non_not _|assumption|(intro e;omega)|(simp;omega))))) ?_); (refine .take 10 rfl (by kernel_rfl) rfl rfl (.move rfl) ?_); (refine .take 11 rfl (by kernel_rfl) rfl rfl (.nilCheck rfl) ?_); (refine .take 12 rfl (by kernel_rfl) rfl rfl (.fieldC rfl) ?_); (refine .read 13 rfl (by kernel_rfl) rfl rfl (by assumption) (.load rfl (fun w hw => (by (first|apply Ld.oneC|apply Ld.two|apply Ld.three|apply Ld.four|apply Ld.five);repeat(apply Keep.cell hw;(first|assumption|exact Row.cell (by assumption) (by first|rfl|assumption));first|exact non_not _|assumption|(intro e;omega)|(simp;omega))))) ?_))
      refine D.one 5 rfl (by kernel_rfl) rfl rfl (St.callC rfl (ihl ul w4 (hnl.keep k4 (fun k _ => non_not k)) (hk.keep k4 (fun k _ => non_not k)) (hx.keep k4 (fun k _ => non_not k)) (by omega))) (fun v5 w5 h5 => ⟨fun _ hS => hS.then h5.2, ?_⟩)
      obtain ⟨h5, k5⟩ := h5
      have k45 := k4.then k5
      skip
      refine D.one 14 rfl (by kernel_rfl) rfl rfl (St.callC rfl (bal_spec _ v5 uk ux ur (Tr.put k x l) r nk nv w5 h5 (hbk.up k45 (fun _ h => .inl h)) (hbx.up k45 (fun _ h => .inl h)) (hnr.up k45 (fun _ h => .inl h)) (by omega))) (fun v6 w6 h6 => ⟨fun _ hS => hS.then h6.2, ?_⟩)
      obtain ⟨h6, k6⟩ := h6
      ((refine .take 15 rfl (by kernel_rfl) rfl rfl (.assign rfl) ?_))
      refine D.fin (by kernel_rfl) ?_
      (repeat first|refine .seq ?_|refine .region ?_|refine .block ?_|refine .skip ?_|refine .ret ?_|refine .exit ?_|refine .yes rfl ?_|refine .no rfl ?_|refine .nil ?_|refine .go ?_|refine .thenExit ?_|refine .thenRet ?_|refine .inExit ?_|refine .outExit rfl ?_|refine .inNormal ?_|refine .inRet ?_|refine .off rfl rfl ?_|refine .offU rfl rfl rfl ?_|(apply W.y rfl rfl;first|exact .move rfl|exact .assign rfl|exact .fieldC rfl|exact .loadW rfl (by (first|apply Ld.oneC|apply Ld.two|apply Ld.three|apply Ld.four|apply Ld.five);repeat(first|assumption|exact Row.cell (by assumption) (by first|rfl|assumption)))|exact .nilCheck rfl|exact .lenC rfl|exact .lenStrC rfl|exact .extract rfl rfl|exact .not rfl|exact .pickT rfl rfl|exact .pickF rfl rfl|exact .buildC rfl rfl|exact .indexC _ rfl rfl rfl (by omega)|exact .indexC 0 rfl rfl rfl (by omega)|exact .indexC 1 rfl rfl rfl (by omega)|exact .indexC 2 rfl rfl rfl (by omega)|exact .indexArrC _ rfl rfl rfl (by omega)|exact .indexArrC 0 rfl rfl rfl (by omega)|exact .indexArrC 1 rfl rfl rfl (by omega)|exact .indexArrC 2 rfl rfl rfl (by omega)|exact .add _ rfl rfl (wrap_i64 (by omega))|exact .sub _ rfl rfl (wrap_i64 (by omega))|exact .rem _ rfl rfl (by decide) (Int.tmod_eq_emod_of_nonneg (by omega))|exact .cmpT rfl rfl rfl (by dsimp only [cmpP];omega)|exact .cmpF rfl rfl rfl (by dsimp only [cmpP];omega)))
      have s4 := k4.size
      have s5 := k5.size
      have s6 := k6.size
      exact E.ret1 rfl rfl ⟨h6.mono (fun k hk => by
        rcases hk with (hk | hk) | hk
        · exact .inl hk
        all_goals exact .inr ⟨by have := hk.1; omega, by have := hk.2; omega⟩), k45.then k6⟩
    · rw [if_neg h1]
      by_cases h2 : 0 < Lib.compareBytes k nk
      · rw [if_pos h2]
        (repeat first|refine .seq ?_|refine .region ?_|refine .block ?_|refine .skip ?_|refine .ret ?_|refine .exit ?_|refine .yes rfl ?_|refine .no rfl ?_|refine .nil ?_|refine .go ?_|refine .thenExit ?_|refine .thenRet ?_|refine .inExit ?_|refine .outExit rfl ?_|refine .inNormal ?_|refine .inRet ?_|refine .off rfl rfl ?_|refine .offU rfl rfl rfl ?_|(apply W.y rfl rfl;first|exact .move rfl|exact .assign rfl|exact .fieldC rfl|exact .loadW rfl (by (first|apply Ld.oneC|apply Ld.two|apply Ld.three|apply Ld.four|apply Ld.five);repeat(first|assumption|exact Row.cell (by assumption) (by first|rfl|assumption)))|exact .nilCheck rfl|exact .lenC rfl|exact .lenStrC rfl|exact .extract rfl rfl|exact .not rfl|exact .pickT rfl rfl|exact .pickF rfl rfl|exact .buildC rfl rfl|exact .indexC _ rfl rfl rfl (by omega)|exact .indexC 0 rfl rfl rfl (by omega)|exact .indexC 1 rfl rfl rfl (by omega)|exact .indexC 2 rfl rfl rfl (by omega)|exact .indexArrC _ rfl rfl rfl (by omega)|exact .indexArrC 0 rfl rfl rfl (by omega)|exact .indexArrC 1 rfl rfl rfl (by omega)|exact .indexArrC 2 rfl rfl rfl (by omega)|exact .add _ rfl rfl (wrap_i64 (by omega))|exact .sub _ rfl rfl (wrap_i64 (by omega))|exact .rem _ rfl rfl (by decide) (Int.tmod_eq_emod_of_nonneg (by omega))|exact .cmpT rfl rfl rfl (by dsimp only [cmpP];omega)|exact .cmpF rfl rfl rfl (by dsimp only [cmpP];omega)))
        refine C.draw 16 (fun wq => Keep Non w3 wq) [] mixed rfl (fun w4 kw4 ew4 => ?_)
        have k4 := k2.then kw4
        ((refine .take 0 rfl (by kernel_rfl) rfl rfl (.move rfl) ?_); (refine .take 1 rfl (by kernel_rfl) rfl rfl (.nilCheck rfl) ?_); (refine .take 2 rfl (by kernel_rfl) rfl rfl (.fieldC rfl) ?_); (refine .read 3 rfl (by kernel_rfl) rfl rfl (by assumption) (.load rfl (fun w hw => (by (first|apply Ld.oneC|apply Ld.two|apply Ld.three|apply Ld.four|apply Ld.five);repeat(apply Keep.cell hw;(first|assumption|exact Row.cell (by assumption) (by first|rfl|assumption));first|exact non_not _|assumption|(intro e;omega)|(simp;omega))))) ?_); (refine .take 4 rfl (by kernel_rfl) rfl rfl (.move rfl) ?_); (refine .take 5 rfl (by kernel_rfl) rfl rfl (.nilCheck rfl) ?_); (refine .take 6 rfl (by kernel_rfl) rfl rfl (.fieldC rfl) ?_); (refine .read 7 rfl (by kernel_rfl) rfl rfl (by assumption) (.load rfl (fun w hw => (by (first|apply Ld.oneC|apply Ld.two|apply Ld.three|apply Ld.four|apply Ld.five);repeat(apply Keep.cell hw;(first|assumption|exact Row.cell (by assumption) (by first|rfl|assumption));first|exact non_not _|assumption|(intro e;omega)|(simp;omega))))) ?_); (refine .take 8 rfl (by kernel_rfl) rfl rfl (.move rfl) ?_); (refine .take 9 rfl (by kernel_rfl) rfl rfl (.nilCheck rfl) ?_); (refine .take 10 rfl (by kernel_rfl) rfl rfl (.fieldC rfl) ?_); (refine .read 11 rfl (by kernel_rfl) rfl rfl (by assumption) (.load rfl (fun w hw => (by (first|apply Ld.oneC|apply Ld.two|apply Ld.three|apply Ld.four|apply Ld.five);repeat(apply Keep.cell hw;(first|assumption|exact Row.cell (by assumption) (by first|rfl|assumption));first|exact non_not _|assumption|(intro e;omega)|(simp;omega))))) ?_); (refine .read 12 rfl (by kernel_rfl) rfl rfl (by assumption) (.load rfl (fun w hw => (by (first|apply Ld.oneC|apply Ld.two|apply Ld.three|apply Ld.four|apply Ld.five);repeat(apply Keep.cell hw;(first|assumption|exact Row.cell (by assumption) (by first|rfl|assumption));first|exact non_not _|assumption|(intro e;omega)|(simp;omega))))) ?_))
        refine D.one 13 rfl (by kernel_rfl) rfl rfl (St.callC rfl (ihr ur w4 (hnr.keep k4 (fun k _ => non_not k)) (hk.keep k4 (fun k _ => non_not k)) (hx.keep k4 (fun k _ => non_not k)) (by omega))) (fun v5 w5 h5 => ⟨fun _ hS => hS.then h5.2, ?_⟩)
        obtain ⟨h5, k5⟩ := h5
        have k45 := k4.then k5
        skip
        refine D.one 14 rfl (by kernel_rfl) rfl rfl (St.callC rfl (bal_spec _ ul uk ux v5 l (Tr.put k x r) nk nv w5 (hnl.up k45 (fun _ h => .inl h)) (hbk.up k45 (fun _ h => .inl h)) (hbx.up k45 (fun _ h => .inl h)) h5 (by omega))) (fun v6 w6 h6 => ⟨fun _ hS => hS.then h6.2, ?_⟩)
        obtain ⟨h6, k6⟩ := h6
        ((refine .take 15 rfl (by kernel_rfl) rfl rfl (.assign rfl) ?_))
        refine D.fin (by kernel_rfl) ?_
        (repeat first|refine .seq ?_|refine .region ?_|refine .block ?_|refine .skip ?_|refine .ret ?_|refine .exit ?_|refine .yes rfl ?_|refine .no rfl ?_|refine .nil ?_|refine .go ?_|refine .thenExit ?_|refine .thenRet ?_|refine .inExit ?_|refine .outExit rfl ?_|refine .inNormal ?_|refine .inRet ?_|refine .off rfl rfl ?_|refine .offU rfl rfl rfl ?_|(apply W.y rfl rfl;first|exact .move rfl|exact .assign rfl|exact .fieldC rfl|exact .loadW rfl (by (first|apply Ld.oneC|apply Ld.two|apply Ld.three|apply Ld.four|apply Ld.five);repeat(first|assumption|exact Row.cell (by assumption) (by first|rfl|assumption)))|exact .nilCheck rfl|exact .lenC rfl|exact .lenStrC rfl|exact .extract rfl rfl|exact .not rfl|exact .pickT rfl rfl|exact .pickF rfl rfl|exact .buildC rfl rfl|exact .indexC _ rfl rfl rfl (by omega)|exact .indexC 0 rfl rfl rfl (by omega)|exact .indexC 1 rfl rfl rfl (by omega)|exact .indexC 2 rfl rfl rfl (by omega)|exact .indexArrC _ rfl rfl rfl (by omega)|exact .indexArrC 0 rfl rfl rfl (by omega)|exact .indexArrC 1 rfl rfl rfl (by omega)|exact .indexArrC 2 rfl rfl rfl (by omega)|exact .add _ rfl rfl (wrap_i64 (by omega))|exact .sub _ rfl rfl (wrap_i64 (by omega))|exact .rem _ rfl rfl (by decide) (Int.tmod_eq_emod_of_nonneg (by omega))|exact .cmpT rfl rfl rfl (by dsimp only [cmpP];omega)|exact .cmpF rfl rfl rfl (by dsimp only [cmpP];omega)))
        have s4 := k4.size
        have s5 := k5.size
        have s6 := k6.size
        exact E.ret1 rfl rfl ⟨h6.mono (fun k hk => by
          rcases hk with (hk | hk) | hk
          · exact .inl hk
          all_goals exact .inr ⟨by have := hk.1; omega, by have := hk.2; omega⟩), k45.then k6⟩
      · rw [if_neg h2]
        (repeat first|refine .seq ?_|refine .region ?_|refine .block ?_|refine .skip ?_|refine .ret ?_|refine .exit ?_|refine .yes rfl ?_|refine .no rfl ?_|refine .nil ?_|refine .go ?_|refine .thenExit ?_|refine .thenRet ?_|refine .inExit ?_|refine .outExit rfl ?_|refine .inNormal ?_|refine .inRet ?_|refine .off rfl rfl ?_|refine .offU rfl rfl rfl ?_|(apply W.y rfl rfl;first|exact .move rfl|exact .assign rfl|exact .fieldC rfl|exact .loadW rfl (by (first|apply Ld.oneC|apply Ld.two|apply Ld.three|apply Ld.four|apply Ld.five);repeat(first|assumption|exact Row.cell (by assumption) (by first|rfl|assumption)))|exact .nilCheck rfl|exact .lenC rfl|exact .lenStrC rfl|exact .extract rfl rfl|exact .not rfl|exact .pickT rfl rfl|exact .pickF rfl rfl|exact .buildC rfl rfl|exact .indexC _ rfl rfl rfl (by omega)|exact .indexC 0 rfl rfl rfl (by omega)|exact .indexC 1 rfl rfl rfl (by omega)|exact .indexC 2 rfl rfl rfl (by omega)|exact .indexArrC _ rfl rfl rfl (by omega)|exact .indexArrC 0 rfl rfl rfl (by omega)|exact .indexArrC 1 rfl rfl rfl (by omega)|exact .indexArrC 2 rfl rfl rfl (by omega)|exact .add _ rfl rfl (wrap_i64 (by omega))|exact .sub _ rfl rfl (wrap_i64 (by omega))|exact .rem _ rfl rfl (by decide) (Int.tmod_eq_emod_of_nonneg (by omega))|exact .cmpT rfl rfl rfl (by dsimp only [cmpP];omega)|exact .cmpF rfl rfl rfl (by dsimp only [cmpP];omega)))
        refine C.draw 11 (fun wq => Keep Non w3 wq) [] mixed rfl (fun w4 kw4 ew4 => ?_)
        have k4 := k2.then kw4
        ((refine .take 0 rfl (by kernel_rfl) rfl rfl (.move rfl) ?_); (refine .take 1 rfl (by kernel_rfl) rfl rfl (.nilCheck rfl) ?_); (refine .take 2 rfl (by kernel_rfl) rfl rfl (.fieldC rfl) ?_); (refine .read 3 rfl (by kernel_rfl) rfl rfl (by assumption) (.load rfl (fun w hw => (by (first|apply Ld.oneC|apply Ld.two|apply Ld.three|apply Ld.four|apply Ld.five);repeat(apply Keep.cell hw;(first|assumption|exact Row.cell (by assumption) (by first|rfl|assumption));first|exact non_not _|assumption|(intro e;omega)|(simp;omega))))) ?_); (refine .read 4 rfl (by kernel_rfl) rfl rfl (by assumption) (.load rfl (fun w hw => (by (first|apply Ld.oneC|apply Ld.two|apply Ld.three|apply Ld.four|apply Ld.five);repeat(apply Keep.cell hw;(first|assumption|exact Row.cell (by assumption) (by first|rfl|assumption));first|exact non_not _|assumption|(intro e;omega)|(simp;omega))))) ?_); (refine .take 5 rfl (by kernel_rfl) rfl rfl (.move rfl) ?_); (refine .take 6 rfl (by kernel_rfl) rfl rfl (.nilCheck rfl) ?_); (refine .take 7 rfl (by kernel_rfl) rfl rfl (.fieldC rfl) ?_); (refine .read 8 rfl (by kernel_rfl) rfl rfl (by assumption) (.load rfl (fun w hw => (by (first|apply Ld.oneC|apply Ld.two|apply Ld.three|apply Ld.four|apply Ld.five);repeat(apply Keep.cell hw;(first|assumption|exact Row.cell (by assumption) (by first|rfl|assumption));first|exact non_not _|assumption|(intro e;omega)|(simp;omega))))) ?_))
        refine D.one 9 rfl (by kernel_rfl) rfl rfl (St.callC rfl (join_spec F ul _ _ ur l r k x w4 (hnl.keep k4 (fun k _ => non_not k)) (hk.keep k4 (fun k _ => non_not k)) (hx.keep k4 (fun k _ => non_not k)) (hnr.keep k4 (fun k _ => non_not k)) (by omega))) (fun v6 w6 h6 => ⟨fun _ hS => hS.then h6.2, ?_⟩)
        obtain ⟨h6, k6⟩ := h6
        ((refine .take 10 rfl (by kernel_rfl) rfl rfl (.assign rfl) ?_))
        refine D.fin (by kernel_rfl) ?_
        (repeat first|refine .seq ?_|refine .region ?_|refine .block ?_|refine .skip ?_|refine .ret ?_|refine .exit ?_|refine .yes rfl ?_|refine .no rfl ?_|refine .nil ?_|refine .go ?_|refine .thenExit ?_|refine .thenRet ?_|refine .inExit ?_|refine .outExit rfl ?_|refine .inNormal ?_|refine .inRet ?_|refine .off rfl rfl ?_|refine .offU rfl rfl rfl ?_|(apply W.y rfl rfl;first|exact .move rfl|exact .assign rfl|exact .fieldC rfl|exact .loadW rfl (by (first|apply Ld.oneC|apply Ld.two|apply Ld.three|apply Ld.four|apply Ld.five);repeat(first|assumption|exact Row.cell (by assumption) (by first|rfl|assumption)))|exact .nilCheck rfl|exact .lenC rfl|exact .lenStrC rfl|exact .extract rfl rfl|exact .not rfl|exact .pickT rfl rfl|exact .pickF rfl rfl|exact .buildC rfl rfl|exact .indexC _ rfl rfl rfl (by omega)|exact .indexC 0 rfl rfl rfl (by omega)|exact .indexC 1 rfl rfl rfl (by omega)|exact .indexC 2 rfl rfl rfl (by omega)|exact .indexArrC _ rfl rfl rfl (by omega)|exact .indexArrC 0 rfl rfl rfl (by omega)|exact .indexArrC 1 rfl rfl rfl (by omega)|exact .indexArrC 2 rfl rfl rfl (by omega)|exact .add _ rfl rfl (wrap_i64 (by omega))|exact .sub _ rfl rfl (wrap_i64 (by omega))|exact .rem _ rfl rfl (by decide) (Int.tmod_eq_emod_of_nonneg (by omega))|exact .cmpT rfl rfl rfl (by dsimp only [cmpP];omega)|exact .cmpF rfl rfl rfl (by dsimp only [cmpP];omega)))
        have s4 := k4.size
        have s6 := k6.size
        exact E.ret1 rfl rfl ⟨h6.mono (fun k hk => by
          rcases hk with hk | hk
          · exact .inl hk
          · exact .inr ⟨by have := hk.1; omega, by have := hk.2; omega⟩), k4.then k6⟩
end Go.Proofs.Ytmneommbdfapfaa
