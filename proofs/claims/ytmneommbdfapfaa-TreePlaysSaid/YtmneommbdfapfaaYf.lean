/- play: its other kinds. -/
import Derived.Test.YtmneommbdfapfaaYe
namespace Go.Proofs.Ytmneommbdfapfaa
open Vb Go.RowKit

theorem range_all {t : Tr} (hS : Sorted t.toList) (m : Nat) (hm : t.count ≤ m) : rng [] m (t.toList.drop (t.rank [])) = t.toList := by
  rw [Tr.drop_rank [] hS, rng_eq _ _ (hS.filter _), filter_all (f := before []) (fun p _ => rfl), filter_all (f := fun p => !less [] p) (fun p _ => by simp [less]), List.take_of_length_le (by rw [t.toList_length]; exact hm)]
theorem range_in {t : Tr} (hS : Sorted t.toList) (from_ to : Bs) (m : Nat) : rng to m (t.toList.drop (t.rank from_)) = (t.toList.filter (inR from_ to)).take m := by
  rw [Tr.drop_rank from_ hS, rng_eq _ _ (hS.filter _), List.filter_filter]
  congr 1
  exact List.filter_congr (fun p _ => by simp [inR, Bool.and_comm])
theorem atW_in (F : Nat → Prop) (bt : Nat) (t : Tr) (i : Nat) (w : World) (h : TreeAt F w bt t) (hc : t.count ≤ 274877906944) (hi : i < t.count) :
    Meets Try.prog 14 #[.pointer (some ⟨bt, 0, none⟩), .int .i64 i] w (fun r w' => ∃ rk rx, r = .tuple #[.agg #[rk, rx], .int .i64 0] ∧ Bytes (FreshW w w') w' rk (t.get i).1 ∧ Bytes (FreshW w w') w' rx (t.get i).2 ∧ Keep Non w w') :=
  (atW_spec F bt t i w h hc).imp (fun v w' hr => by
    obtain ⟨rk, rx, rfl, h1, h2, h3⟩ := hr
    have hcond : 0 ≤ (i : Int) ∧ (i : Int) < t.count := by omega
    simp only [hcond, and_self, if_true, Int.toNat_natCast] at h1 h2 ⊢
    exact ⟨rk, rx, rfl, h1, h2, h3⟩)
theorem slRBL_of {br F : Nat → Prop} {w : World} {v : Value} {l : List Pr} (h : Sl br 2 48 (RPair F) w v l) : Sl br 2 48 (RBL F) w v (l.map fun p => (p.1.length, p.2.length)) := by
  obtain ⟨A, c, hv, hc, hn, hb, he⟩ := h
  refine ⟨A, c, by simpa using hv, by simpa using hc, hn, by simpa using hb, fun i x hi => ?_⟩
  rw [List.getElem?_map] at hi
  obtain ⟨p, hp, rfl⟩ := Option.map_eq_some_iff.1 hi
  obtain ⟨b, o, cs, h1, h2, h3, h4, va, vb, h5, h6, h7⟩ := he i p hp
  exact ⟨b, o, cs, h1, h2, h3, h4, va, vb, h5, ⟨_, rfl, h6⟩, ⟨_, rfl, h7⟩⟩

section
variable (F FK FV G H : Nat → Prop) (bt b5 : Nat) (t : Tr) (vm vk vv vk' vv' : Value) (kind n : Int) (key val : Bs) (w0 w : World)
theorem out_same {w' : World} (kk : Keep Non w w') (hT : TreeAt G w bt t) (hS : Sorted t.toList) (hm : SPairs H w vm t.toList) (hH : ∀ k, H k → k < w.heap.size ∧ k ≠ bt) : Out G H w w' bt t bt vm := by
  have s := kk.size
  exact ⟨⟨t, _, _, hT.up kk, hS, hm.keep kk (fun k _ => non_not k), fun k hk => ⟨by have := (hH k hk).1; omega, (hH k hk).2⟩, by omega, fun k hk => .inl hk, fun k hk => .inl hk⟩, kk.any, .inl rfl⟩

set_option maxHeartbeats 1600000 in
theorem play4 (hP : PS w0 w F bt b5 FK FV kind n vk vv vk' vv' key val) (hT : TreeAt G w bt t) (hS : Sorted t.toList) (hm : SPairs H w vm t.toList) (hH : ∀ k, H k → k < w.heap.size ∧ k ≠ bt) (hc : t.count ≤ 200) :
    C Try.prog 274 (pc [1,1,1,0,1,0,1,1,1,1,1,1,1,0] Try.f22) (Post 274 (fun e L' w' => e = .normal ∧ ∃ bt' vm', L' = playL bt' b5 vm' vk' vv' ∧ Out G H w w' bt t bt' vm')) (playL bt b5 vm vk' vv') w := by
  have htl := t.toList_length
  have q1 := hP.r5.cell (j := 1) rfl
  obtain ⟨Ak, ck, rfl, _⟩ := id hP.hk
  obtain ⟨Av, cv, rfl, _⟩ := id hP.hv
  obtain ⟨Ak', ck', rfl, _⟩ := id hP.ck
  obtain ⟨Av', cv', rfl, _⟩ := id hP.cv
  (repeat first|refine .seq ?_|refine .region ?_|refine .block ?_|refine .skip ?_|refine .ret ?_|refine .exit ?_|refine .yes rfl ?_|refine .no rfl ?_|refine .nil ?_|refine .go ?_|refine .thenExit ?_|refine .thenRet ?_|refine .inExit ?_|refine .outExit rfl ?_|refine .inNormal ?_|refine .inRet ?_|refine .off rfl rfl ?_|refine .offU rfl rfl rfl ?_|(apply W.y rfl rfl;first|exact .move rfl|exact .assign rfl|exact .fieldC rfl|exact .loadW rfl (by (first|apply Ld.oneC|apply Ld.two|apply Ld.three|apply Ld.four|apply Ld.five);repeat(first|assumption|exact Row.cell (by assumption) (by first|rfl|assumption)))|exact .nilCheck rfl|exact .lenC rfl|exact .lenStrC rfl|exact .extract rfl rfl|exact .not rfl|exact .pickT rfl rfl|exact .pickF rfl rfl|exact .buildC rfl rfl|exact .indexC _ rfl rfl rfl (by omega)|exact .indexC 0 rfl rfl rfl (by omega)|exact .indexC 1 rfl rfl rfl (by omega)|exact .indexC 2 rfl rfl rfl (by omega)|exact .indexArrC _ rfl rfl rfl (by omega)|exact .indexArrC 0 rfl rfl rfl (by omega)|exact .indexArrC 1 rfl rfl rfl (by omega)|exact .indexArrC 2 rfl rfl rfl (by omega)|exact .add _ rfl rfl (wrap_i64 (by omega))|exact .sub _ rfl rfl (wrap_i64 (by omega))|exact .rem _ rfl rfl (by decide) (Int.tmod_eq_emod_of_nonneg (by omega))|exact .cmpT rfl rfl rfl (by unfold cmpP;omega)|exact .cmpF rfl rfl rfl (by unfold cmpP;omega)|fail)|fail)
  refine W.st rfl rfl (St.callC rfl (rangeW_spec G (fun _ => True) bt t _ _ key val n w hT (hP.ck.mono (fun _ _ => trivial)) (hP.cv.mono (fun _ _ => trivial)) (by omega))) (fun v1 w1 h1 => ?_)
  obtain ⟨h1, k1⟩ := h1
  rw [range_in hS] at h1
  have hP1 := hP.keep k1.any
  have q1 := hP1.r5.cell (j := 1) rfl
  have q2 := hP1.r5.cell (j := 2) rfl
  have q3 := hP1.r5.cell (j := 3) rfl
  (repeat first|refine .seq ?_|refine .region ?_|refine .block ?_|refine .skip ?_|refine .ret ?_|refine .exit ?_|refine .yes rfl ?_|refine .no rfl ?_|refine .nil ?_|refine .go ?_|refine .thenExit ?_|refine .thenRet ?_|refine .inExit ?_|refine .outExit rfl ?_|refine .inNormal ?_|refine .inRet ?_|refine .off rfl rfl ?_|refine .offU rfl rfl rfl ?_|(apply W.y rfl rfl;first|exact .move rfl|exact .assign rfl|exact .fieldC rfl|exact .loadW rfl (by (first|apply Ld.oneC|apply Ld.two|apply Ld.three|apply Ld.four|apply Ld.five);repeat(first|assumption|exact Row.cell (by assumption) (by first|rfl|assumption)))|exact .nilCheck rfl|exact .lenC rfl|exact .lenStrC rfl|exact .extract rfl rfl|exact .not rfl|exact .pickT rfl rfl|exact .pickF rfl rfl|exact .buildC rfl rfl|exact .indexC _ rfl rfl rfl (by omega)|exact .indexC 0 rfl rfl rfl (by omega)|exact .indexC 1 rfl rfl rfl (by omega)|exact .indexC 2 rfl rfl rfl (by omega)|exact .indexArrC _ rfl rfl rfl (by omega)|exact .indexArrC 0 rfl rfl rfl (by omega)|exact .indexArrC 1 rfl rfl rfl (by omega)|exact .indexArrC 2 rfl rfl rfl (by omega)|exact .add _ rfl rfl (wrap_i64 (by omega))|exact .sub _ rfl rfl (wrap_i64 (by omega))|exact .rem _ rfl rfl (by decide) (Int.tmod_eq_emod_of_nonneg (by omega))|exact .cmpT rfl rfl rfl (by unfold cmpP;omega)|exact .cmpF rfl rfl rfl (by unfold cmpP;omega)|fail)|fail)
  refine W.y rfl rfl (Y.bytesStrW Try.underlying23 Try.underlying5 Try.underlying9 rfl hP1.hk) ?_
  (repeat first|refine .seq ?_|refine .region ?_|refine .block ?_|refine .skip ?_|refine .ret ?_|refine .exit ?_|refine .yes rfl ?_|refine .no rfl ?_|refine .nil ?_|refine .go ?_|refine .thenExit ?_|refine .thenRet ?_|refine .inExit ?_|refine .outExit rfl ?_|refine .inNormal ?_|refine .inRet ?_|refine .off rfl rfl ?_|refine .offU rfl rfl rfl ?_|(apply W.y rfl rfl;first|exact .move rfl|exact .assign rfl|exact .fieldC rfl|exact .loadW rfl (by (first|apply Ld.oneC|apply Ld.two|apply Ld.three|apply Ld.four|apply Ld.five);repeat(first|assumption|exact Row.cell (by assumption) (by first|rfl|assumption)))|exact .nilCheck rfl|exact .lenC rfl|exact .lenStrC rfl|exact .extract rfl rfl|exact .not rfl|exact .pickT rfl rfl|exact .pickF rfl rfl|exact .buildC rfl rfl|exact .indexC _ rfl rfl rfl (by omega)|exact .indexC 0 rfl rfl rfl (by omega)|exact .indexC 1 rfl rfl rfl (by omega)|exact .indexC 2 rfl rfl rfl (by omega)|exact .indexArrC _ rfl rfl rfl (by omega)|exact .indexArrC 0 rfl rfl rfl (by omega)|exact .indexArrC 1 rfl rfl rfl (by omega)|exact .indexArrC 2 rfl rfl rfl (by omega)|exact .add _ rfl rfl (wrap_i64 (by omega))|exact .sub _ rfl rfl (wrap_i64 (by omega))|exact .rem _ rfl rfl (by decide) (Int.tmod_eq_emod_of_nonneg (by omega))|exact .cmpT rfl rfl rfl (by unfold cmpP;omega)|exact .cmpF rfl rfl rfl (by unfold cmpP;omega)|fail)|fail)
  refine W.y rfl rfl (Y.bytesStrW Try.underlying23 Try.underlying5 Try.underlying9 rfl hP1.hv) ?_
  (repeat first|refine .seq ?_|refine .region ?_|refine .block ?_|refine .skip ?_|refine .ret ?_|refine .exit ?_|refine .yes rfl ?_|refine .no rfl ?_|refine .nil ?_|refine .go ?_|refine .thenExit ?_|refine .thenRet ?_|refine .inExit ?_|refine .outExit rfl ?_|refine .inNormal ?_|refine .inRet ?_|refine .off rfl rfl ?_|refine .offU rfl rfl rfl ?_|(apply W.y rfl rfl;first|exact .move rfl|exact .assign rfl|exact .fieldC rfl|exact .loadW rfl (by (first|apply Ld.oneC|apply Ld.two|apply Ld.three|apply Ld.four|apply Ld.five);repeat(first|assumption|exact Row.cell (by assumption) (by first|rfl|assumption)))|exact .nilCheck rfl|exact .lenC rfl|exact .lenStrC rfl|exact .extract rfl rfl|exact .not rfl|exact .pickT rfl rfl|exact .pickF rfl rfl|exact .buildC rfl rfl|exact .indexC _ rfl rfl rfl (by omega)|exact .indexC 0 rfl rfl rfl (by omega)|exact .indexC 1 rfl rfl rfl (by omega)|exact .indexC 2 rfl rfl rfl (by omega)|exact .indexArrC _ rfl rfl rfl (by omega)|exact .indexArrC 0 rfl rfl rfl (by omega)|exact .indexArrC 1 rfl rfl rfl (by omega)|exact .indexArrC 2 rfl rfl rfl (by omega)|exact .add _ rfl rfl (wrap_i64 (by omega))|exact .sub _ rfl rfl (wrap_i64 (by omega))|exact .rem _ rfl rfl (by decide) (Int.tmod_eq_emod_of_nonneg (by omega))|exact .cmpT rfl rfl rfl (by unfold cmpP;omega)|exact .cmpF rfl rfl rfl (by unfold cmpP;omega)|fail)|fail)
  refine W.st rfl rfl (St.callC rfl (rrange_spec H _ t.toList key val n w1 (hm.keep k1 (fun k _ => non_not k)) (by omega))) (fun v2 w2 h2 => ?_)
  obtain ⟨hm2, k2⟩ := h2
  have h2 := h1.up k2
  refine W.st rfl rfl (St.callC rfl (same_spec _ _ _ _ _ w2 h2.pairs hm2)) (fun v3 w3 h3 => ?_)
  obtain ⟨rfl, k3⟩ := h3
  obtain ⟨br, h3, hbr⟩ := h2.up k3
  have k03 := (k1.then k2).then k3
  (repeat first|refine .seq ?_|refine .region ?_|refine .block ?_|refine .skip ?_|refine .ret ?_|refine .exit ?_|refine .yes rfl ?_|refine .no rfl ?_|refine .nil ?_|refine .go ?_|refine .thenExit ?_|refine .thenRet ?_|refine .inExit ?_|refine .outExit rfl ?_|refine .inNormal ?_|refine .inRet ?_|refine .off rfl rfl ?_|refine .offU rfl rfl rfl ?_|(apply W.y rfl rfl;first|exact .move rfl|exact .assign rfl|exact .fieldC rfl|exact .loadW rfl (by (first|apply Ld.oneC|apply Ld.two|apply Ld.three|apply Ld.four|apply Ld.five);repeat(first|assumption|exact Row.cell (by assumption) (by first|rfl|assumption)))|exact .nilCheck rfl|exact .lenC rfl|exact .lenStrC rfl|exact .extract rfl rfl|exact .not rfl|exact .pickT rfl rfl|exact .pickF rfl rfl|exact .buildC rfl rfl|exact .indexC _ rfl rfl rfl (by omega)|exact .indexC 0 rfl rfl rfl (by omega)|exact .indexC 1 rfl rfl rfl (by omega)|exact .indexC 2 rfl rfl rfl (by omega)|exact .indexArrC _ rfl rfl rfl (by omega)|exact .indexArrC 0 rfl rfl rfl (by omega)|exact .indexArrC 1 rfl rfl rfl (by omega)|exact .indexArrC 2 rfl rfl rfl (by omega)|exact .add _ rfl rfl (wrap_i64 (by omega))|exact .sub _ rfl rfl (wrap_i64 (by omega))|exact .rem _ rfl rfl (by decide) (Int.tmod_eq_emod_of_nonneg (by omega))|exact .cmpT rfl rfl rfl (by unfold cmpP;omega)|exact .cmpF rfl rfl rfl (by unfold cmpP;omega)|fail)|fail)
  refine W.st rfl rfl (St.callC rfl (spoil_spec br _ _ _ w3 (slRBL_of h3) (fun k hk => hk.1.2) (fun k hk => hk.2))) (fun v4 w4 h4 => ?_)
  have kk : Keep Non w w4 := k03.far h4 (fun k hk => hk.1.1.1)
  (repeat first|refine .seq ?_|refine .region ?_|refine .block ?_|refine .skip ?_|refine .ret ?_|refine .exit ?_|refine .yes rfl ?_|refine .no rfl ?_|refine .nil ?_|refine .go ?_|refine .thenExit ?_|refine .thenRet ?_|refine .inExit ?_|refine .outExit rfl ?_|refine .inNormal ?_|refine .inRet ?_|refine .off rfl rfl ?_|refine .offU rfl rfl rfl ?_|(apply W.y rfl rfl;first|exact .move rfl|exact .assign rfl|exact .fieldC rfl|exact .loadW rfl (by (first|apply Ld.oneC|apply Ld.two|apply Ld.three|apply Ld.four|apply Ld.five);repeat(first|assumption|exact Row.cell (by assumption) (by first|rfl|assumption)))|exact .nilCheck rfl|exact .lenC rfl|exact .lenStrC rfl|exact .extract rfl rfl|exact .not rfl|exact .pickT rfl rfl|exact .pickF rfl rfl|exact .buildC rfl rfl|exact .indexC _ rfl rfl rfl (by omega)|exact .indexC 0 rfl rfl rfl (by omega)|exact .indexC 1 rfl rfl rfl (by omega)|exact .indexC 2 rfl rfl rfl (by omega)|exact .indexArrC _ rfl rfl rfl (by omega)|exact .indexArrC 0 rfl rfl rfl (by omega)|exact .indexArrC 1 rfl rfl rfl (by omega)|exact .indexArrC 2 rfl rfl rfl (by omega)|exact .add _ rfl rfl (wrap_i64 (by omega))|exact .sub _ rfl rfl (wrap_i64 (by omega))|exact .rem _ rfl rfl (by decide) (Int.tmod_eq_emod_of_nonneg (by omega))|exact .cmpT rfl rfl rfl (by unfold cmpP;omega)|exact .cmpF rfl rfl rfl (by unfold cmpP;omega)|fail)|fail)
  exact E.endN _ ⟨rfl, bt, vm, rfl, out_same G H bt t vm w kk hT hS hm hH⟩ ⟨rfl, rfl, rfl, rfl, rfl, rfl, trivial⟩

set_option maxHeartbeats 1600000 in
theorem play6 (hP : PS w0 w F bt b5 FK FV kind n vk vv vk' vv' key val) (hT : TreeAt G w bt t) (hS : Sorted t.toList) (hm : SPairs H w vm t.toList) (hH : ∀ k, H k → k < w.heap.size ∧ k ≠ bt) (hc : t.count ≤ 200) :
    C Try.prog 274 (pc [1,1,1,0,1,0,1,1,1,1,1,1,1,1,1,1,1,0] Try.f22) (Post 274 (fun e L' w' => e = .normal ∧ ∃ bt' vm', L' = playL bt' b5 vm' vk' vv' ∧ Out G H w w' bt t bt' vm')) (playL bt b5 vm vk' vv') w := by
  have htl := t.toList_length
  have q2 := hP.r5.cell (j := 2) rfl
  have hk := hP.hk
  obtain ⟨Ak, ck, rfl, _⟩ := id hk
  obtain ⟨Ak', ck', rfl, _⟩ := id hP.ck
  have hrl : (t.toList.filter (less key)).length ≤ t.count := by rw [← htl]; exact List.length_filter_le _ _
  refine C.draw 10 (fun wq => Keep Non w wq) [] mixed rfl (fun w1 kw1 ew1 => ?_)
  ((refine .take 0 rfl (by kernel_rfl) rfl rfl (.move rfl) ?_); (refine .take 1 rfl (by kernel_rfl) rfl rfl (.move rfl) ?_); (refine .take 3 rfl (by kernel_rfl) rfl rfl (.move rfl) ?_); (refine .take 4 rfl (by kernel_rfl) rfl rfl (.fieldC rfl) ?_); (refine .read 5 rfl (by kernel_rfl) rfl rfl (by assumption) (.load rfl (fun w hw => (by (first|apply Ld.oneC|apply Ld.two|apply Ld.three|apply Ld.four|apply Ld.five);repeat(apply Keep.cell hw;(first|assumption|exact Row.cell (by assumption) (by first|rfl|assumption));first|exact non_not _|assumption|(intro e;omega)|(simp;omega))))) ?_); (refine .read 6 rfl (by kernel_rfl) rfl rfl (by assumption) (Y.bytesStr Try.underlying23 Try.underlying5 Try.underlying9 rfl (fun w hw => ⟨_, hk.keep hw (fun k _ => non_not k)⟩)) ?_))
  have hP1 := hP.keep kw1.any
  refine D.one 2 rfl (by kernel_rfl) rfl rfl (St.callC rfl (rank_spec G _ bt t _ key w1 (hT.up kw1) hP1.ck (by omega))) (fun v2 w2 h2 => ⟨fun _ hS => by rw [h2.2]; exact hS, ?_⟩)
  obtain ⟨e2, rfl⟩ := h2
  rw [Tr.rank_eq key hS] at e2
  subst e2
  refine D.one 7 rfl (by kernel_rfl) rfl rfl (St.callC rfl (rrank_spec H _ t.toList key w2 (hm.keep kw1 (fun k _ => non_not k)) (by omega))) (fun v3 w3 h3 => ⟨fun _ hS => by rw [h3.2]; exact hS, ?_⟩)
  obtain ⟨rfl, rfl⟩ := h3
  ((first|refine .take 8 rfl (by kernel_rfl) rfl rfl (.cmpT rfl rfl rfl (by unfold cmpP;omega)) ?_|refine .take 8 rfl (by kernel_rfl) rfl rfl (.cmpF rfl rfl rfl (by unfold cmpP;omega)) ?_); (refine .take 9 rfl (by kernel_rfl) rfl rfl (.assign rfl) ?_))
  refine D.fin (by kernel_rfl) ?_
  exact E.endN _ ⟨rfl, bt, vm, rfl, out_same G H bt t vm w kw1 hT hS hm hH⟩ ⟨rfl, rfl, rfl, rfl, rfl, rfl, trivial⟩

set_option maxHeartbeats 3200000 in
theorem play7 (hP : PS w0 w F bt b5 FK FV kind n vk vv vk' vv' key val) (hT : TreeAt G w bt t) (hS : Sorted t.toList) (hm : SPairs H w vm t.toList) (hH : ∀ k, H k → k < w.heap.size ∧ k ≠ bt) (hc : t.count ≤ 200) :
    C Try.prog 274 (pc [1,1,1,0,1,0,1,1,1,1,1,1,1,1,1,1,1,1,1,0] Try.f22) (Post 274 (fun e L' w' => e = .normal ∧ ∃ bt' vm', L' = playL bt' b5 vm' vk' vv' ∧ Out G H w w' bt t bt' vm')) (playL bt b5 vm vk' vv') w := by
  have htl := t.toList_length
  have hbt := hT.lt
  (repeat first|refine .seq ?_|refine .region ?_|refine .block ?_|refine .skip ?_|refine .ret ?_|refine .exit ?_|refine .yes rfl ?_|refine .no rfl ?_|refine .nil ?_|refine .go ?_|refine .thenExit ?_|refine .thenRet ?_|refine .inExit ?_|refine .outExit rfl ?_|refine .inNormal ?_|refine .inRet ?_|refine .off rfl rfl ?_|refine .offU rfl rfl rfl ?_|(apply W.y rfl rfl;first|exact .move rfl|exact .assign rfl|exact .fieldC rfl|exact .loadW rfl (by (first|apply Ld.oneC|apply Ld.two|apply Ld.three|apply Ld.four|apply Ld.five);repeat(first|assumption|exact Row.cell (by assumption) (by first|rfl|assumption)))|exact .nilCheck rfl|exact .lenC rfl|exact .lenStrC rfl|exact .extract rfl rfl|exact .not rfl|exact .pickT rfl rfl|exact .pickF rfl rfl|exact .buildC rfl rfl|exact .indexC _ rfl rfl rfl (by omega)|exact .indexC 0 rfl rfl rfl (by omega)|exact .indexC 1 rfl rfl rfl (by omega)|exact .indexC 2 rfl rfl rfl (by omega)|exact .indexArrC _ rfl rfl rfl (by omega)|exact .indexArrC 0 rfl rfl rfl (by omega)|exact .indexArrC 1 rfl rfl rfl (by omega)|exact .indexArrC 2 rfl rfl rfl (by omega)|exact .add _ rfl rfl (wrap_i64 (by omega))|exact .sub _ rfl rfl (wrap_i64 (by omega))|exact .rem _ rfl rfl (by decide) (Int.tmod_eq_emod_of_nonneg (by omega))|exact .cmpT rfl rfl rfl (by unfold cmpP;omega)|exact .cmpF rfl rfl rfl (by unfold cmpP;omega)|fail)|fail)
  refine W.st rfl rfl (St.callC rfl (tclone_spec G bt t w hT)) (fun v1 w1 h1 => ?_)
  obtain ⟨b2, rfl, hb2, hT2, k1⟩ := h1
  have hT1 := hT.up k1
  (repeat first|refine .seq ?_|refine .region ?_|refine .block ?_|refine .skip ?_|refine .ret ?_|refine .exit ?_|refine .yes rfl ?_|refine .no rfl ?_|refine .nil ?_|refine .go ?_|refine .thenExit ?_|refine .thenRet ?_|refine .inExit ?_|refine .outExit rfl ?_|refine .inNormal ?_|refine .inRet ?_|refine .off rfl rfl ?_|refine .offU rfl rfl rfl ?_|(apply W.y rfl rfl;first|exact .move rfl|exact .assign rfl|exact .fieldC rfl|exact .loadW rfl (by (first|apply Ld.oneC|apply Ld.two|apply Ld.three|apply Ld.four|apply Ld.five);repeat(first|assumption|exact Row.cell (by assumption) (by first|rfl|assumption)))|exact .nilCheck rfl|exact .lenC rfl|exact .lenStrC rfl|exact .extract rfl rfl|exact .not rfl|exact .pickT rfl rfl|exact .pickF rfl rfl|exact .buildC rfl rfl|exact .indexC _ rfl rfl rfl (by omega)|exact .indexC 0 rfl rfl rfl (by omega)|exact .indexC 1 rfl rfl rfl (by omega)|exact .indexC 2 rfl rfl rfl (by omega)|exact .indexArrC _ rfl rfl rfl (by omega)|exact .indexArrC 0 rfl rfl rfl (by omega)|exact .indexArrC 1 rfl rfl rfl (by omega)|exact .indexArrC 2 rfl rfl rfl (by omega)|exact .add _ rfl rfl (wrap_i64 (by omega))|exact .sub _ rfl rfl (wrap_i64 (by omega))|exact .rem _ rfl rfl (by decide) (Int.tmod_eq_emod_of_nonneg (by omega))|exact .cmpT rfl rfl rfl (by unfold cmpP;omega)|exact .cmpF rfl rfl rfl (by unfold cmpP;omega)|fail)|fail)
  refine W.y rfl rfl (Y.eqlPtrNilC rfl rfl) ?_
  (repeat first|refine .seq ?_|refine .region ?_|refine .block ?_|refine .skip ?_|refine .ret ?_|refine .exit ?_|refine .yes rfl ?_|refine .no rfl ?_|refine .nil ?_|refine .go ?_|refine .thenExit ?_|refine .thenRet ?_|refine .inExit ?_|refine .outExit rfl ?_|refine .inNormal ?_|refine .inRet ?_|refine .off rfl rfl ?_|refine .offU rfl rfl rfl ?_|(apply W.y rfl rfl;first|exact .move rfl|exact .assign rfl|exact .fieldC rfl|exact .loadW rfl (by (first|apply Ld.oneC|apply Ld.two|apply Ld.three|apply Ld.four|apply Ld.five);repeat(first|assumption|exact Row.cell (by assumption) (by first|rfl|assumption)))|exact .nilCheck rfl|exact .lenC rfl|exact .lenStrC rfl|exact .extract rfl rfl|exact .not rfl|exact .pickT rfl rfl|exact .pickF rfl rfl|exact .buildC rfl rfl|exact .indexC _ rfl rfl rfl (by omega)|exact .indexC 0 rfl rfl rfl (by omega)|exact .indexC 1 rfl rfl rfl (by omega)|exact .indexC 2 rfl rfl rfl (by omega)|exact .indexArrC _ rfl rfl rfl (by omega)|exact .indexArrC 0 rfl rfl rfl (by omega)|exact .indexArrC 1 rfl rfl rfl (by omega)|exact .indexArrC 2 rfl rfl rfl (by omega)|exact .add _ rfl rfl (wrap_i64 (by omega))|exact .sub _ rfl rfl (wrap_i64 (by omega))|exact .rem _ rfl rfl (by decide) (Int.tmod_eq_emod_of_nonneg (by omega))|exact .cmpT rfl rfl rfl (by unfold cmpP;omega)|exact .cmpF rfl rfl rfl (by unfold cmpP;omega)|fail)|fail)
  refine W.st rfl rfl (St.callC rfl (range_spec G (fun _ => True) bt t _ _ [] [] 1073741824 w1 hT1 Sl.nil Sl.nil (by omega))) (fun v2 w2 h2 => ?_)
  obtain ⟨h2, k2⟩ := h2
  rw [show (1073741824 : Int).toNat = 1073741824 from rfl, range_all hS _ (by omega)] at h2
  have hT12 := hT1.up k2
  have hT22 := hT2.up k2
  have k02 := k1.then k2
  generalize hl : t.toList = l at *
  obtain ⟨Al, cl, rfl, _, _, hbl, hel⟩ := id h2
  (repeat first|refine .seq ?_|refine .region ?_|refine .block ?_|refine .skip ?_|refine .ret ?_|refine .exit ?_|refine .yes rfl ?_|refine .no rfl ?_|refine .nil ?_|refine .go ?_|refine .thenExit ?_|refine .thenRet ?_|refine .inExit ?_|refine .outExit rfl ?_|refine .inNormal ?_|refine .inRet ?_|refine .off rfl rfl ?_|refine .offU rfl rfl rfl ?_|(apply W.y rfl rfl;first|exact .move rfl|exact .assign rfl|exact .fieldC rfl|exact .loadW rfl (by (first|apply Ld.oneC|apply Ld.two|apply Ld.three|apply Ld.four|apply Ld.five);repeat(first|assumption|exact Row.cell (by assumption) (by first|rfl|assumption)))|exact .nilCheck rfl|exact .lenC rfl|exact .lenStrC rfl|exact .extract rfl rfl|exact .not rfl|exact .pickT rfl rfl|exact .pickF rfl rfl|exact .buildC rfl rfl|exact .indexC _ rfl rfl rfl (by omega)|exact .indexC 0 rfl rfl rfl (by omega)|exact .indexC 1 rfl rfl rfl (by omega)|exact .indexC 2 rfl rfl rfl (by omega)|exact .indexArrC _ rfl rfl rfl (by omega)|exact .indexArrC 0 rfl rfl rfl (by omega)|exact .indexArrC 1 rfl rfl rfl (by omega)|exact .indexArrC 2 rfl rfl rfl (by omega)|exact .add _ rfl rfl (wrap_i64 (by omega))|exact .sub _ rfl rfl (wrap_i64 (by omega))|exact .rem _ rfl rfl (by decide) (Int.tmod_eq_emod_of_nonneg (by omega))|exact .cmpT rfl rfl rfl (by unfold cmpP;omega)|exact .cmpF rfl rfl rfl (by unfold cmpP;omega)|fail)|fail)
  refine C.loop (fun m L w' => ∃ (i : Nat) (ti : Tr) (Gi : Nat → Prop), L = [(0, ptr2 bt), (1, vm), (5, ptr2 b5), (9, vk'), (10, vv'), (11, .bool true), (23, ptr2 b2), (216, .slice Al l.length cl), (217, .int .i64 l.length), (218, .int .i64 i)] ∧ m = l.length - i ∧ i ≤ l.length ∧ TreeAt Gi w' bt ti ∧ ti.toList = l.drop i ∧ Keep (fun k => k = bt) w2 w') l.length _
    ⟨0, t, _, rfl, rfl, by omega, hT12, by rw [hl]; rfl, Keep.refl _ _⟩ ⟨rfl, rfl, rfl, rfl, rfl, rfl, rfl, rfl, rfl, rfl, trivial⟩ ?_
  rintro m L w3 ⟨i, ti, Gi, rfl, rfl, hi, hTi, hli, k3⟩
  have hfr : ∀ k, Fresh w1 w2 k → ¬ (k = bt) := fun k hk e => by have := hk.1; have := k1.size; omega
  by_cases hlt : i < l.length
  · obtain ⟨p, hp⟩ : ∃ p, l[i]? = some p := ⟨_, List.getElem?_eq_getElem hlt⟩
    obtain ⟨bA, oA, csA, rfl, hFA, hlA, hcA, vkA, vxA, rfl, hkA, hxA⟩ := hel i _ hp
    have hkA3 := hkA.keep k3 hfr
    obtain ⟨AkA, ckA, rfl, _⟩ := id hkA
    obtain ⟨AxA, cxA, rfl, _⟩ := id hxA
    have qA0 : w3.cell? ⟨bA, oA + i * 2, none⟩ = some _ := k3.cell (hcA 0 _ rfl) (hfr _ hFA)
    have qA1 : w3.cell? ⟨bA, oA + i * 2 + 1, none⟩ = some _ := k3.cell (hcA 1 _ rfl) (hfr _ hFA)
    have hd := drop_cons hp
    have hSi : Sorted ti.toList := by rw [hli]; exact hS.drop
    have hfs : (ti.find p.1).isSome = true := by
      rw [Tr.find_eq p.1 hSi, hli, hd]
      simp [getL]
    have hrem : (ti.remove p.1).toList = l.drop (i + 1) := by
      rw [Tr.remove_toList p.1 hSi, hli, hd]
      have h9 : Sorted (p :: l.drop (i + 1)) := by rw [← hd]; exact hS.drop
      unfold delL
      rw [List.filter_cons_of_neg (by simp)]
      exact delL_all (fun q hq => (ne_of_blt ((List.pairwise_cons.1 h9).1 q hq)).symm)
    have hci : ti.count ≤ 200 := by rw [← Tr.toList_length, hli, List.length_drop]; omega
    (repeat first|refine .seq ?_|refine .region ?_|refine .block ?_|refine .skip ?_|refine .ret ?_|refine .exit ?_|refine .yes rfl ?_|refine .no rfl ?_|refine .nil ?_|refine .go ?_|refine .thenExit ?_|refine .thenRet ?_|refine .inExit ?_|refine .outExit rfl ?_|refine .inNormal ?_|refine .inRet ?_|refine .off rfl rfl ?_|refine .offU rfl rfl rfl ?_|(apply W.y rfl rfl;first|exact .move rfl|exact .assign rfl|exact .fieldC rfl|exact .loadW rfl (by (first|apply Ld.oneC|apply Ld.two|apply Ld.three|apply Ld.four|apply Ld.five);repeat(first|assumption|exact Row.cell (by assumption) (by first|rfl|assumption)))|exact .nilCheck rfl|exact .lenC rfl|exact .lenStrC rfl|exact .extract rfl rfl|exact .not rfl|exact .pickT rfl rfl|exact .pickF rfl rfl|exact .buildC rfl rfl|exact .indexC _ rfl rfl rfl (by omega)|exact .indexC 0 rfl rfl rfl (by omega)|exact .indexC 1 rfl rfl rfl (by omega)|exact .indexC 2 rfl rfl rfl (by omega)|exact .indexArrC _ rfl rfl rfl (by omega)|exact .indexArrC 0 rfl rfl rfl (by omega)|exact .indexArrC 1 rfl rfl rfl (by omega)|exact .indexArrC 2 rfl rfl rfl (by omega)|exact .add _ rfl rfl (wrap_i64 (by omega))|exact .sub _ rfl rfl (wrap_i64 (by omega))|exact .rem _ rfl rfl (by decide) (Int.tmod_eq_emod_of_nonneg (by omega))|exact .cmpT rfl rfl rfl (by unfold cmpP;omega)|exact .cmpF rfl rfl rfl (by unfold cmpP;omega)|fail)|fail)
    refine W.st rfl rfl St.allocC (fun v4 w4 h4 => ?_)
    obtain ⟨b4, rfl, hN4⟩ := h4
    have hr4 := hN4.row
    have a4 := hN4.at_
    refine W.st0 rfl (St.storeC rfl rfl rfl hr4 (by simp [Value.cells]) (one2 rfl rfl)) (fun v5 w5 h5 => ?_)
    have hr5 : Row w5 b4 32 [_, _] := h5.row
    have k35 : Keep Non w3 w5 := hN4.keep.put h5 (by omega)
    have hTi5 := hTi.up k35
    have hkA5 := hkA3.keep k35 (fun k _ => non_not k)
    (repeat first|refine .seq ?_|refine .region ?_|refine .block ?_|refine .skip ?_|refine .ret ?_|refine .exit ?_|refine .yes rfl ?_|refine .no rfl ?_|refine .nil ?_|refine .go ?_|refine .thenExit ?_|refine .thenRet ?_|refine .inExit ?_|refine .outExit rfl ?_|refine .inNormal ?_|refine .inRet ?_|refine .off rfl rfl ?_|refine .offU rfl rfl rfl ?_|(apply W.y rfl rfl;first|exact .move rfl|exact .assign rfl|exact .fieldC rfl|exact .loadW rfl (by (first|apply Ld.oneC|apply Ld.two|apply Ld.three|apply Ld.four|apply Ld.five);repeat(first|assumption|exact Row.cell (by assumption) (by first|rfl|assumption)))|exact .nilCheck rfl|exact .lenC rfl|exact .lenStrC rfl|exact .extract rfl rfl|exact .not rfl|exact .pickT rfl rfl|exact .pickF rfl rfl|exact .buildC rfl rfl|exact .indexC _ rfl rfl rfl (by omega)|exact .indexC 0 rfl rfl rfl (by omega)|exact .indexC 1 rfl rfl rfl (by omega)|exact .indexC 2 rfl rfl rfl (by omega)|exact .indexArrC _ rfl rfl rfl (by omega)|exact .indexArrC 0 rfl rfl rfl (by omega)|exact .indexArrC 1 rfl rfl rfl (by omega)|exact .indexArrC 2 rfl rfl rfl (by omega)|exact .add _ rfl rfl (wrap_i64 (by omega))|exact .sub _ rfl rfl (wrap_i64 (by omega))|exact .rem _ rfl rfl (by decide) (Int.tmod_eq_emod_of_nonneg (by omega))|exact .cmpT rfl rfl rfl (by unfold cmpP;omega)|exact .cmpF rfl rfl rfl (by unfold cmpP;omega)|fail)|fail)
    refine W.st rfl rfl (St.callC rfl (tdelete_spec Gi _ bt ti _ p.1 w5 hTi5 hkA5 (by omega))) (fun v6 w6 h6 => ?_)
    obtain ⟨rfl, hTi6, k6⟩ := h6
    rw [hfs] at hTi6
    simp only [if_true] at hTi6
    (repeat first|refine .seq ?_|refine .region ?_|refine .block ?_|refine .skip ?_|refine .ret ?_|refine .exit ?_|refine .yes rfl ?_|refine .no rfl ?_|refine .nil ?_|refine .go ?_|refine .thenExit ?_|refine .thenRet ?_|refine .inExit ?_|refine .outExit rfl ?_|refine .inNormal ?_|refine .inRet ?_|refine .off rfl rfl ?_|refine .offU rfl rfl rfl ?_|(apply W.y rfl rfl;first|exact .move rfl|exact .assign rfl|exact .fieldC rfl|exact .loadW rfl (by (first|apply Ld.oneC|apply Ld.two|apply Ld.three|apply Ld.four|apply Ld.five);repeat(first|assumption|exact Row.cell (by assumption) (by first|rfl|assumption)))|exact .nilCheck rfl|exact .lenC rfl|exact .lenStrC rfl|exact .extract rfl rfl|exact .not rfl|exact .pickT rfl rfl|exact .pickF rfl rfl|exact .buildC rfl rfl|exact .indexC _ rfl rfl rfl (by omega)|exact .indexC 0 rfl rfl rfl (by omega)|exact .indexC 1 rfl rfl rfl (by omega)|exact .indexC 2 rfl rfl rfl (by omega)|exact .indexArrC _ rfl rfl rfl (by omega)|exact .indexArrC 0 rfl rfl rfl (by omega)|exact .indexArrC 1 rfl rfl rfl (by omega)|exact .indexArrC 2 rfl rfl rfl (by omega)|exact .add _ rfl rfl (wrap_i64 (by omega))|exact .sub _ rfl rfl (wrap_i64 (by omega))|exact .rem _ rfl rfl (by decide) (Int.tmod_eq_emod_of_nonneg (by omega))|exact .cmpT rfl rfl rfl (by unfold cmpP;omega)|exact .cmpF rfl rfl rfl (by unfold cmpP;omega)|fail)|fail)
    exact E.again _ _ (by omega) ⟨i + 1, _, _, rfl, rfl, by omega, hTi6, hrem, (k3.then k35.any).then k6⟩ ⟨rfl, rfl, rfl, rfl, rfl, rfl, rfl, rfl, rfl, some_int (by omega), trivial⟩
  · have hci : ti.count = 0 := by rw [← Tr.toList_length, hli, List.length_drop]; omega
    (repeat first|refine .seq ?_|refine .region ?_|refine .block ?_|refine .skip ?_|refine .ret ?_|refine .exit ?_|refine .yes rfl ?_|refine .no rfl ?_|refine .nil ?_|refine .go ?_|refine .thenExit ?_|refine .thenRet ?_|refine .inExit ?_|refine .outExit rfl ?_|refine .inNormal ?_|refine .inRet ?_|refine .off rfl rfl ?_|refine .offU rfl rfl rfl ?_|(apply W.y rfl rfl;first|exact .move rfl|exact .assign rfl|exact .fieldC rfl|exact .loadW rfl (by (first|apply Ld.oneC|apply Ld.two|apply Ld.three|apply Ld.four|apply Ld.five);repeat(first|assumption|exact Row.cell (by assumption) (by first|rfl|assumption)))|exact .nilCheck rfl|exact .lenC rfl|exact .lenStrC rfl|exact .extract rfl rfl|exact .not rfl|exact .pickT rfl rfl|exact .pickF rfl rfl|exact .buildC rfl rfl|exact .indexC _ rfl rfl rfl (by omega)|exact .indexC 0 rfl rfl rfl (by omega)|exact .indexC 1 rfl rfl rfl (by omega)|exact .indexC 2 rfl rfl rfl (by omega)|exact .indexArrC _ rfl rfl rfl (by omega)|exact .indexArrC 0 rfl rfl rfl (by omega)|exact .indexArrC 1 rfl rfl rfl (by omega)|exact .indexArrC 2 rfl rfl rfl (by omega)|exact .add _ rfl rfl (wrap_i64 (by omega))|exact .sub _ rfl rfl (wrap_i64 (by omega))|exact .rem _ rfl rfl (by decide) (Int.tmod_eq_emod_of_nonneg (by omega))|exact .cmpT rfl rfl rfl (by unfold cmpP;omega)|exact .cmpF rfl rfl rfl (by unfold cmpP;omega)|fail)|fail)
    refine W.st rfl rfl (St.callC rfl (len_spec Gi bt ti w3 hTi)) (fun v4 w4 h4 => ?_)
    obtain ⟨rfl, rfl⟩ := h4
    have hap := hT.apart
    have hTb := hT22.keep k3 (fun k hk e => hap (by have e' : k = bt := e; exact e' ▸ hk)) (fun e => by have e' : b2 = bt := e; omega)
    have kk : Keep (fun k => k = bt) w w4 := k02.any.then k3
    have s := kk.size
    (repeat first|refine .seq ?_|refine .region ?_|refine .block ?_|refine .skip ?_|refine .ret ?_|refine .exit ?_|refine .yes rfl ?_|refine .no rfl ?_|refine .nil ?_|refine .go ?_|refine .thenExit ?_|refine .thenRet ?_|refine .inExit ?_|refine .outExit rfl ?_|refine .inNormal ?_|refine .inRet ?_|refine .off rfl rfl ?_|refine .offU rfl rfl rfl ?_|(apply W.y rfl rfl;first|exact .move rfl|exact .assign rfl|exact .fieldC rfl|exact .loadW rfl (by (first|apply Ld.oneC|apply Ld.two|apply Ld.three|apply Ld.four|apply Ld.five);repeat(first|assumption|exact Row.cell (by assumption) (by first|rfl|assumption)))|exact .nilCheck rfl|exact .lenC rfl|exact .lenStrC rfl|exact .extract rfl rfl|exact .not rfl|exact .pickT rfl rfl|exact .pickF rfl rfl|exact .buildC rfl rfl|exact .indexC _ rfl rfl rfl (by omega)|exact .indexC 0 rfl rfl rfl (by omega)|exact .indexC 1 rfl rfl rfl (by omega)|exact .indexC 2 rfl rfl rfl (by omega)|exact .indexArrC _ rfl rfl rfl (by omega)|exact .indexArrC 0 rfl rfl rfl (by omega)|exact .indexArrC 1 rfl rfl rfl (by omega)|exact .indexArrC 2 rfl rfl rfl (by omega)|exact .add _ rfl rfl (wrap_i64 (by omega))|exact .sub _ rfl rfl (wrap_i64 (by omega))|exact .rem _ rfl rfl (by decide) (Int.tmod_eq_emod_of_nonneg (by omega))|exact .cmpT rfl rfl rfl (by unfold cmpP;omega)|exact .cmpF rfl rfl rfl (by unfold cmpP;omega)|fail)|fail)
    exact E.endN _ ⟨rfl, b2, vm, rfl, ⟨t, _, H, hTb, hl ▸ hS, hl ▸ hm.keep kk (fun k hk => (hH k hk).2), fun k hk => ⟨by have := (hH k hk).1; omega, by have := (hH k hk).1; omega⟩, by omega, fun k hk => .inl hk, fun k hk => .inl hk⟩, kk, .inr (by omega)⟩ ⟨rfl, rfl, rfl, rfl, rfl, rfl, trivial⟩
end
end Go.Proofs.Ytmneommbdfapfaa
