/- Contracts of the feed itself: First, Last, Add, Poll, New, Kept. -/
import Derived.Test.YtkehmehodgcdfaaFa
namespace Go.Proofs.Ytkehmehodgcdfaa
open Vb Go.RowKit

/-- A feed at block b: its last number, the deltas that are kept; F: the blocks in which these lie. -/
def FeedAt (F : Nat → Prop) (w : World) (b : Nat) (last : Nat) (ds : List Delta) : Prop :=
  ∃ cs, Row w b 68 cs ∧ cs.length = 26 ∧ cs[24]? = some (.int .i64 last) ∧ cs[25]? = some (.int .i64 ds.length) ∧ ds.length ≤ 12 ∧ ds.length ≤ last ∧ ¬ F b ∧
    ∀ i d, ds[i]? = some d → ∃ va vd, cs[2 * ((last - ds.length + 1 + i) % 12)]? = some va ∧ cs[2 * ((last - ds.length + 1 + i) % 12) + 1]? = some vd ∧ Deltas F w va vd d
theorem FeedAt.keep {F S : Nat → Prop} {w w' : World} (k : Keep S w w') (hF : ∀ k, F k → ¬ S k) {b last : Nat} {ds : List Delta} (hb : ¬ S b) (h : FeedAt F w b last ds) : FeedAt F w' b last ds := by
  obtain ⟨cs, h1, h2, h3, h4, h5, h6, h7, h8⟩ := h
  refine ⟨cs, h1.keep k hb, h2, h3, h4, h5, h6, h7, fun i d hi => ?_⟩
  obtain ⟨va, vd, g1, g2, g3⟩ := h8 i d hi
  exact ⟨va, vd, g1, g2, g3.keep k hF⟩
theorem FeedAt.lt {F : Nat → Prop} {w : World} {b last : Nat} {ds : List Delta} (h : FeedAt F w b last ds) : b < w.heap.size := by
  obtain ⟨cs, h1, _⟩ := h
  exact h1.lt

theorem last_spec (F : Nat → Prop) (b last : Nat) (ds : List Delta) (w : World) (h : FeedAt F w b last ds) :
    Meets Try.prog 11 #[.pointer (some ⟨b, 0, none⟩)] w (fun v w' => v = .int .i64 last ∧ Keep Non w w') := by
  obtain ⟨cs, hr, hn, hl, hk, h12, hle, hb, hs⟩ := h
  refine Meets.enter Try.func11 Try.ntmps11 rfl rfl ?_
  (repeat first|refine .seq ?_|refine .region ?_|refine .block ?_|refine .skip ?_|refine .ret ?_|refine .exit ?_|refine .yes rfl ?_|refine .no rfl ?_|refine .nil ?_|refine .go ?_|refine .thenExit ?_|refine .thenRet ?_|refine .inExit ?_|refine .outExit rfl ?_|refine .inNormal ?_|refine .inRet ?_|refine .off rfl rfl ?_|refine .offU rfl rfl rfl ?_|(apply W.y rfl rfl;first|exact .move rfl|exact .assign rfl|exact .fieldC rfl|exact .loadW rfl (by (first|apply Ld.oneC|apply Ld.two|apply Ld.three|apply Ld.four|apply Ld.five);repeat(first|assumption|exact Row.cell (by assumption) (by first|rfl|assumption)))|exact .nilCheck rfl|exact .lenC rfl|exact .lenStrC rfl|exact .extract rfl rfl|exact .not rfl|exact .pickT rfl rfl|exact .pickF rfl rfl|exact .buildC rfl rfl|exact .indexC _ rfl rfl rfl (by omega)|exact .indexC 0 rfl rfl rfl (by omega)|exact .indexC 1 rfl rfl rfl (by omega)|exact .indexC 2 rfl rfl rfl (by omega)|exact .indexArrC _ rfl rfl rfl (by omega)|exact .indexArrC 0 rfl rfl rfl (by omega)|exact .indexArrC 1 rfl rfl rfl (by omega)|exact .indexArrC 2 rfl rfl rfl (by omega)|exact .add _ rfl rfl (wrap_i64 (by omega))|exact .sub _ rfl rfl (wrap_i64 (by omega))|exact .rem _ rfl rfl (by decide) (Int.tmod_eq_emod_of_nonneg (by omega))|exact .cmpT rfl rfl rfl (by unfold cmpP;omega)|exact .cmpF rfl rfl rfl (by unfold cmpP;omega)|fail)|fail)
  exact E.ret1 rfl rfl ⟨rfl, Keep.refl _ _⟩

theorem first_spec (F : Nat → Prop) (b last : Nat) (ds : List Delta) (w : World) (h : FeedAt F w b last ds) (hl : last ≤ 1099511627776) :
    Meets Try.prog 13 #[.pointer (some ⟨b, 0, none⟩)] w (fun v w' => v = .int .i64 ((last : Int) - ds.length + 1) ∧ Keep Non w w') := by
  obtain ⟨cs, hr, hn, hl, hk, h12, hle, hb, hs⟩ := h
  refine Meets.enter Try.func13 Try.ntmps13 rfl rfl ?_
  (repeat first|refine .seq ?_|refine .region ?_|refine .block ?_|refine .skip ?_|refine .ret ?_|refine .exit ?_|refine .yes rfl ?_|refine .no rfl ?_|refine .nil ?_|refine .go ?_|refine .thenExit ?_|refine .thenRet ?_|refine .inExit ?_|refine .outExit rfl ?_|refine .inNormal ?_|refine .inRet ?_|refine .off rfl rfl ?_|refine .offU rfl rfl rfl ?_|(apply W.y rfl rfl;first|exact .move rfl|exact .assign rfl|exact .fieldC rfl|exact .loadW rfl (by (first|apply Ld.oneC|apply Ld.two|apply Ld.three|apply Ld.four|apply Ld.five);repeat(first|assumption|exact Row.cell (by assumption) (by first|rfl|assumption)))|exact .nilCheck rfl|exact .lenC rfl|exact .lenStrC rfl|exact .extract rfl rfl|exact .not rfl|exact .pickT rfl rfl|exact .pickF rfl rfl|exact .buildC rfl rfl|exact .indexC _ rfl rfl rfl (by omega)|exact .indexC 0 rfl rfl rfl (by omega)|exact .indexC 1 rfl rfl rfl (by omega)|exact .indexC 2 rfl rfl rfl (by omega)|exact .indexArrC _ rfl rfl rfl (by omega)|exact .indexArrC 0 rfl rfl rfl (by omega)|exact .indexArrC 1 rfl rfl rfl (by omega)|exact .indexArrC 2 rfl rfl rfl (by omega)|exact .add _ rfl rfl (wrap_i64 (by omega))|exact .sub _ rfl rfl (wrap_i64 (by omega))|exact .rem _ rfl rfl (by decide) (Int.tmod_eq_emod_of_nonneg (by omega))|exact .cmpT rfl rfl rfl (by unfold cmpP;omega)|exact .cmpF rfl rfl rfl (by unfold cmpP;omega)|fail)|fail)
  refine C.draw 11 (fun wq => Keep Non w wq) [] mixed rfl (fun w1 kw1 ew1 => ?_)
  ((refine .take 0 rfl (by kernel_rfl) rfl rfl (.move rfl) ?_); (refine .take 1 rfl (by kernel_rfl) rfl rfl (.nilCheck rfl) ?_); (refine .take 2 rfl (by kernel_rfl) rfl rfl (.fieldC rfl) ?_); (refine .read 3 rfl (by kernel_rfl) rfl rfl (by assumption) (.load rfl (fun w hw => (by (first|apply Ld.oneC|apply Ld.two|apply Ld.three|apply Ld.four|apply Ld.five);repeat(apply Keep.cell hw;(first|assumption|exact Row.cell (by assumption) (by first|rfl|assumption));first|exact non_not _|assumption|(intro e;omega)|(simp;omega))))) ?_); (refine .take 4 rfl (by kernel_rfl) rfl rfl (.move rfl) ?_); (refine .take 5 rfl (by kernel_rfl) rfl rfl (.nilCheck rfl) ?_); (refine .take 6 rfl (by kernel_rfl) rfl rfl (.fieldC rfl) ?_); (refine .read 7 rfl (by kernel_rfl) rfl rfl (by assumption) (.load rfl (fun w hw => (by (first|apply Ld.oneC|apply Ld.two|apply Ld.three|apply Ld.four|apply Ld.five);repeat(apply Keep.cell hw;(first|assumption|exact Row.cell (by assumption) (by first|rfl|assumption));first|exact non_not _|assumption|(intro e;omega)|(simp;omega))))) ?_); (refine .take 8 rfl (by kernel_rfl) rfl rfl (.sub _ rfl rfl (wrap_i64 (by omega))) ?_); (refine .take 9 rfl (by kernel_rfl) rfl rfl (.add _ rfl rfl (wrap_i64 (by omega))) ?_); (refine .take 10 rfl (by kernel_rfl) rfl rfl (.assign rfl) ?_))
  refine D.fin (by kernel_rfl) ?_
  (repeat first|refine .seq ?_|refine .region ?_|refine .block ?_|refine .skip ?_|refine .ret ?_|refine .exit ?_|refine .yes rfl ?_|refine .no rfl ?_|refine .nil ?_|refine .go ?_|refine .thenExit ?_|refine .thenRet ?_|refine .inExit ?_|refine .outExit rfl ?_|refine .inNormal ?_|refine .inRet ?_|refine .off rfl rfl ?_|refine .offU rfl rfl rfl ?_|(apply W.y rfl rfl;first|exact .move rfl|exact .assign rfl|exact .fieldC rfl|exact .loadW rfl (by (first|apply Ld.oneC|apply Ld.two|apply Ld.three|apply Ld.four|apply Ld.five);repeat(first|assumption|exact Row.cell (by assumption) (by first|rfl|assumption)))|exact .nilCheck rfl|exact .lenC rfl|exact .lenStrC rfl|exact .extract rfl rfl|exact .not rfl|exact .pickT rfl rfl|exact .pickF rfl rfl|exact .buildC rfl rfl|exact .indexC _ rfl rfl rfl (by omega)|exact .indexC 0 rfl rfl rfl (by omega)|exact .indexC 1 rfl rfl rfl (by omega)|exact .indexC 2 rfl rfl rfl (by omega)|exact .indexArrC _ rfl rfl rfl (by omega)|exact .indexArrC 0 rfl rfl rfl (by omega)|exact .indexArrC 1 rfl rfl rfl (by omega)|exact .indexArrC 2 rfl rfl rfl (by omega)|exact .add _ rfl rfl (wrap_i64 (by omega))|exact .sub _ rfl rfl (wrap_i64 (by omega))|exact .rem _ rfl rfl (by decide) (Int.tmod_eq_emod_of_nonneg (by omega))|exact .cmpT rfl rfl rfl (by unfold cmpP;omega)|exact .cmpF rfl rfl rfl (by unfold cmpP;omega)|fail)|fail)
  exact E.ret1 rfl rfl ⟨rfl, kw1⟩

/-- What is kept behind one more. -/
def push (ds : List Delta) (d : Delta) : List Delta := if ds.length = 12 then ds.drop 1 ++ [d] else ds ++ [d]
theorem push_length (ds : List Delta) (d : Delta) (h : ds.length ≤ 12) : (push ds d).length = min (ds.length + 1) 12 := by
  unfold push
  split <;> simp <;> omega
theorem push_get (ds : List Delta) (d : Delta) (h : ds.length ≤ 12) (i : Nat) (x : Delta) (hi : (push ds d)[i]? = some x) :
    (i + 1 = (push ds d).length ∧ x = d) ∨ (i + 1 < (push ds d).length ∧ ds[ds.length + 1 + i - (push ds d).length]? = some x) := by
  have hlt := (List.getElem?_eq_some_iff.1 hi).1
  by_cases h0 : i + 1 = (push ds d).length
  · left
    refine ⟨h0, ?_⟩
    unfold push at hi h0
    split at hi
    · rename_i h12
      rw [if_pos h12] at h0
      simp at h0
      rw [List.getElem?_append_right (by simp; omega)] at hi
      have : i - (ds.drop 1).length = 0 := by simp; omega
      rw [this] at hi
      simpa using hi.symm
    · rename_i h12
      rw [if_neg h12] at h0
      simp at h0
      subst h0
      simpa using hi.symm
  · right
    refine ⟨by omega, ?_⟩
    have hl := push_length ds d h
    unfold push at hi
    split at hi
    · rename_i h12
      rw [List.getElem?_append_left (by simp; omega)] at hi
      rw [List.getElem?_drop] at hi
      rw [show ds.length + 1 + i - (push ds d).length = 1 + i by omega]
      exact hi
    · rename_i h12
      rw [List.getElem?_append_left (by omega)] at hi
      rw [show ds.length + 1 + i - (push ds d).length = i by omega]
      exact hi

theorem add_no (F G : Nat → Prop) (b last : Nat) (ds : List Delta) (va vd : Value) (d : Delta) (w : World) (_h : FeedAt F w b last ds) (hd : Deltas G w va vd d) (h0 : (d.1.isEmpty && d.2.isEmpty) = true) :
    Meets Try.prog 9 #[.pointer (some ⟨b, 0, none⟩), .agg #[va, vd]] w (fun v w' => v = .bool false ∧ Keep Non w w') := by
  refine Meets.enter Try.func9 Try.ntmps9 rfl rfl ?_
  (repeat first|refine .seq ?_|refine .region ?_|refine .block ?_|refine .skip ?_|refine .ret ?_|refine .exit ?_|refine .yes rfl ?_|refine .no rfl ?_|refine .nil ?_|refine .go ?_|refine .thenExit ?_|refine .thenRet ?_|refine .inExit ?_|refine .outExit rfl ?_|refine .inNormal ?_|refine .inRet ?_|refine .off rfl rfl ?_|refine .offU rfl rfl rfl ?_|(apply W.y rfl rfl;first|exact .move rfl|exact .assign rfl|exact .fieldC rfl|exact .loadW rfl (by (first|apply Ld.oneC|apply Ld.two|apply Ld.three|apply Ld.four|apply Ld.five);repeat(first|assumption|exact Row.cell (by assumption) (by first|rfl|assumption)))|exact .nilCheck rfl|exact .lenC rfl|exact .lenStrC rfl|exact .extract rfl rfl|exact .not rfl|exact .pickT rfl rfl|exact .pickF rfl rfl|exact .buildC rfl rfl|exact .indexC _ rfl rfl rfl (by omega)|exact .indexC 0 rfl rfl rfl (by omega)|exact .indexC 1 rfl rfl rfl (by omega)|exact .indexC 2 rfl rfl rfl (by omega)|exact .indexArrC _ rfl rfl rfl (by omega)|exact .indexArrC 0 rfl rfl rfl (by omega)|exact .indexArrC 1 rfl rfl rfl (by omega)|exact .indexArrC 2 rfl rfl rfl (by omega)|exact .add _ rfl rfl (wrap_i64 (by omega))|exact .sub _ rfl rfl (wrap_i64 (by omega))|exact .rem _ rfl rfl (by decide) (Int.tmod_eq_emod_of_nonneg (by omega))|exact .cmpT rfl rfl rfl (by unfold cmpP;omega)|exact .cmpF rfl rfl rfl (by unfold cmpP;omega)|fail)|fail)
  refine W.st rfl rfl (St.box rfl) (fun v1 w1 hv => ?_)
  obtain ⟨b1, rfl, hN1⟩ := hv
  have hr1 := hN1.row
  (repeat first|refine .seq ?_|refine .region ?_|refine .block ?_|refine .skip ?_|refine .ret ?_|refine .exit ?_|refine .yes rfl ?_|refine .no rfl ?_|refine .nil ?_|refine .go ?_|refine .thenExit ?_|refine .thenRet ?_|refine .inExit ?_|refine .outExit rfl ?_|refine .inNormal ?_|refine .inRet ?_|refine .off rfl rfl ?_|refine .offU rfl rfl rfl ?_|(apply W.y rfl rfl;first|exact .move rfl|exact .assign rfl|exact .fieldC rfl|exact .loadW rfl (by (first|apply Ld.oneC|apply Ld.two|apply Ld.three|apply Ld.four|apply Ld.five);repeat(first|assumption|exact Row.cell (by assumption) (by first|rfl|assumption)))|exact .nilCheck rfl|exact .lenC rfl|exact .lenStrC rfl|exact .extract rfl rfl|exact .not rfl|exact .pickT rfl rfl|exact .pickF rfl rfl|exact .buildC rfl rfl|exact .indexC _ rfl rfl rfl (by omega)|exact .indexC 0 rfl rfl rfl (by omega)|exact .indexC 1 rfl rfl rfl (by omega)|exact .indexC 2 rfl rfl rfl (by omega)|exact .indexArrC _ rfl rfl rfl (by omega)|exact .indexArrC 0 rfl rfl rfl (by omega)|exact .indexArrC 1 rfl rfl rfl (by omega)|exact .indexArrC 2 rfl rfl rfl (by omega)|exact .add _ rfl rfl (wrap_i64 (by omega))|exact .sub _ rfl rfl (wrap_i64 (by omega))|exact .rem _ rfl rfl (by decide) (Int.tmod_eq_emod_of_nonneg (by omega))|exact .cmpT rfl rfl rfl (by unfold cmpP;omega)|exact .cmpF rfl rfl rfl (by unfold cmpP;omega)|fail)|fail)
  refine W.st rfl rfl (St.callC rfl (empty_spec G va vd d w1 (hd.keep hN1.keep (fun k _ => non_not k)))) (fun v2 w2 h2 => ?_)
  obtain ⟨rfl, k2⟩ := h2
  rw [h0]
  (repeat first|refine .seq ?_|refine .region ?_|refine .block ?_|refine .skip ?_|refine .ret ?_|refine .exit ?_|refine .yes rfl ?_|refine .no rfl ?_|refine .nil ?_|refine .go ?_|refine .thenExit ?_|refine .thenRet ?_|refine .inExit ?_|refine .outExit rfl ?_|refine .inNormal ?_|refine .inRet ?_|refine .off rfl rfl ?_|refine .offU rfl rfl rfl ?_|(apply W.y rfl rfl;first|exact .move rfl|exact .assign rfl|exact .fieldC rfl|exact .loadW rfl (by (first|apply Ld.oneC|apply Ld.two|apply Ld.three|apply Ld.four|apply Ld.five);repeat(first|assumption|exact Row.cell (by assumption) (by first|rfl|assumption)))|exact .nilCheck rfl|exact .lenC rfl|exact .lenStrC rfl|exact .extract rfl rfl|exact .not rfl|exact .pickT rfl rfl|exact .pickF rfl rfl|exact .buildC rfl rfl|exact .indexC _ rfl rfl rfl (by omega)|exact .indexC 0 rfl rfl rfl (by omega)|exact .indexC 1 rfl rfl rfl (by omega)|exact .indexC 2 rfl rfl rfl (by omega)|exact .indexArrC _ rfl rfl rfl (by omega)|exact .indexArrC 0 rfl rfl rfl (by omega)|exact .indexArrC 1 rfl rfl rfl (by omega)|exact .indexArrC 2 rfl rfl rfl (by omega)|exact .add _ rfl rfl (wrap_i64 (by omega))|exact .sub _ rfl rfl (wrap_i64 (by omega))|exact .rem _ rfl rfl (by decide) (Int.tmod_eq_emod_of_nonneg (by omega))|exact .cmpT rfl rfl rfl (by unfold cmpP;omega)|exact .cmpF rfl rfl rfl (by unfold cmpP;omega)|fail)|fail)
  exact E.ret1 rfl rfl ⟨rfl, hN1.keep.then k2⟩

set_option maxHeartbeats 1600000 in
theorem add_yes (F G : Nat → Prop) (b last : Nat) (ds : List Delta) (va vd : Value) (d : Delta) (w : World) (h : FeedAt F w b last ds) (hl : last ≤ 1099511627776) (hd : Deltas G w va vd d) (hG : ¬ G b) (h0 : (d.1.isEmpty && d.2.isEmpty) = false) :
    Meets Try.prog 9 #[.pointer (some ⟨b, 0, none⟩), .agg #[va, vd]] w (fun v w' => v = .bool true ∧ Keep (fun k => k = b) w w' ∧ FeedAt (fun k => F k ∨ Fresh w w' k) w' b (last + 1) (push ds d)) := by
  obtain ⟨cs, hr, hn, hcl, hck, h12, hle, hb, hs⟩ := h
  refine Meets.enter Try.func9 Try.ntmps9 rfl rfl ?_
  (repeat first|refine .seq ?_|refine .region ?_|refine .block ?_|refine .skip ?_|refine .ret ?_|refine .exit ?_|refine .yes rfl ?_|refine .no rfl ?_|refine .nil ?_|refine .go ?_|refine .thenExit ?_|refine .thenRet ?_|refine .inExit ?_|refine .outExit rfl ?_|refine .inNormal ?_|refine .inRet ?_|refine .off rfl rfl ?_|refine .offU rfl rfl rfl ?_|(apply W.y rfl rfl;first|exact .move rfl|exact .assign rfl|exact .fieldC rfl|exact .loadW rfl (by (first|apply Ld.oneC|apply Ld.two|apply Ld.three|apply Ld.four|apply Ld.five);repeat(first|assumption|exact Row.cell (by assumption) (by first|rfl|assumption)))|exact .nilCheck rfl|exact .lenC rfl|exact .lenStrC rfl|exact .extract rfl rfl|exact .not rfl|exact .pickT rfl rfl|exact .pickF rfl rfl|exact .buildC rfl rfl|exact .indexC _ rfl rfl rfl (by omega)|exact .indexC 0 rfl rfl rfl (by omega)|exact .indexC 1 rfl rfl rfl (by omega)|exact .indexC 2 rfl rfl rfl (by omega)|exact .indexArrC _ rfl rfl rfl (by omega)|exact .indexArrC 0 rfl rfl rfl (by omega)|exact .indexArrC 1 rfl rfl rfl (by omega)|exact .indexArrC 2 rfl rfl rfl (by omega)|exact .add _ rfl rfl (wrap_i64 (by omega))|exact .sub _ rfl rfl (wrap_i64 (by omega))|exact .rem _ rfl rfl (by decide) (Int.tmod_eq_emod_of_nonneg (by omega))|exact .cmpT rfl rfl rfl (by unfold cmpP;omega)|exact .cmpF rfl rfl rfl (by unfold cmpP;omega)|fail)|fail)
  refine W.st rfl rfl (St.box rfl) (fun v1 w1 hv => ?_)
  obtain ⟨b1, rfl, hN1⟩ := hv
  have hr1 := hN1.row
  have a1 := hN1.at_
  have s1 := hN1.size
  (repeat first|refine .seq ?_|refine .region ?_|refine .block ?_|refine .skip ?_|refine .ret ?_|refine .exit ?_|refine .yes rfl ?_|refine .no rfl ?_|refine .nil ?_|refine .go ?_|refine .thenExit ?_|refine .thenRet ?_|refine .inExit ?_|refine .outExit rfl ?_|refine .inNormal ?_|refine .inRet ?_|refine .off rfl rfl ?_|refine .offU rfl rfl rfl ?_|(apply W.y rfl rfl;first|exact .move rfl|exact .assign rfl|exact .fieldC rfl|exact .loadW rfl (by (first|apply Ld.oneC|apply Ld.two|apply Ld.three|apply Ld.four|apply Ld.five);repeat(first|assumption|exact Row.cell (by assumption) (by first|rfl|assumption)))|exact .nilCheck rfl|exact .lenC rfl|exact .lenStrC rfl|exact .extract rfl rfl|exact .not rfl|exact .pickT rfl rfl|exact .pickF rfl rfl|exact .buildC rfl rfl|exact .indexC _ rfl rfl rfl (by omega)|exact .indexC 0 rfl rfl rfl (by omega)|exact .indexC 1 rfl rfl rfl (by omega)|exact .indexC 2 rfl rfl rfl (by omega)|exact .indexArrC _ rfl rfl rfl (by omega)|exact .indexArrC 0 rfl rfl rfl (by omega)|exact .indexArrC 1 rfl rfl rfl (by omega)|exact .indexArrC 2 rfl rfl rfl (by omega)|exact .add _ rfl rfl (wrap_i64 (by omega))|exact .sub _ rfl rfl (wrap_i64 (by omega))|exact .rem _ rfl rfl (by decide) (Int.tmod_eq_emod_of_nonneg (by omega))|exact .cmpT rfl rfl rfl (by unfold cmpP;omega)|exact .cmpF rfl rfl rfl (by unfold cmpP;omega)|fail)|fail)
  refine W.st rfl rfl (St.callC rfl (empty_spec G va vd d w1 (hd.keep hN1.keep (fun k _ => non_not k)))) (fun v2 w2 h2 => ?_)
  obtain ⟨rfl, k2⟩ := h2
  rw [h0]
  have k02 := hN1.keep.then k2
  have hr2 := hr.keep k02 (non_not _)
  have hb1 := hr1.keep k2 (non_not _)
  have s2 := k2.size
  have hlt := hr.lt
  (repeat first|refine .seq ?_|refine .region ?_|refine .block ?_|refine .skip ?_|refine .ret ?_|refine .exit ?_|refine .yes rfl ?_|refine .no rfl ?_|refine .nil ?_|refine .go ?_|refine .thenExit ?_|refine .thenRet ?_|refine .inExit ?_|refine .outExit rfl ?_|refine .inNormal ?_|refine .inRet ?_|refine .off rfl rfl ?_|refine .offU rfl rfl rfl ?_|(apply W.y rfl rfl;first|exact .move rfl|exact .assign rfl|exact .fieldC rfl|exact .loadW rfl (by (first|apply Ld.oneC|apply Ld.two|apply Ld.three|apply Ld.four|apply Ld.five);repeat(first|assumption|exact Row.cell (by assumption) (by first|rfl|assumption)))|exact .nilCheck rfl|exact .lenC rfl|exact .lenStrC rfl|exact .extract rfl rfl|exact .not rfl|exact .pickT rfl rfl|exact .pickF rfl rfl|exact .buildC rfl rfl|exact .indexC _ rfl rfl rfl (by omega)|exact .indexC 0 rfl rfl rfl (by omega)|exact .indexC 1 rfl rfl rfl (by omega)|exact .indexC 2 rfl rfl rfl (by omega)|exact .indexArrC _ rfl rfl rfl (by omega)|exact .indexArrC 0 rfl rfl rfl (by omega)|exact .indexArrC 1 rfl rfl rfl (by omega)|exact .indexArrC 2 rfl rfl rfl (by omega)|exact .add _ rfl rfl (wrap_i64 (by omega))|exact .sub _ rfl rfl (wrap_i64 (by omega))|exact .rem _ rfl rfl (by decide) (Int.tmod_eq_emod_of_nonneg (by omega))|exact .cmpT rfl rfl rfl (by unfold cmpP;omega)|exact .cmpF rfl rfl rfl (by unfold cmpP;omega)|fail)|fail)
  refine W.st0 rfl (St.storeC rfl rfl rfl hr2 (by simp [hn, Value.cells]) (by simp [Value.cells, Value.oneCell'])) (fun v3 w3 h3 => ?_)
  have hr3 := h3.row
  have s3 := h3.size
  have k3 := h3.keep
  have hb3 := hb1.keep k3 (by intro e; omega)
  simp only [Value.cells] at hr3
  have hc3 : (splice cs (0 + 24) [.int .i64 ((last : Int) + 1)])[24]? = some (.int .i64 ((last : Int) + 1)) := by rw [splice_get (by simp [hn])]; simp
  (repeat first|refine .seq ?_|refine .region ?_|refine .block ?_|refine .skip ?_|refine .ret ?_|refine .exit ?_|refine .yes rfl ?_|refine .no rfl ?_|refine .nil ?_|refine .go ?_|refine .thenExit ?_|refine .thenRet ?_|refine .inExit ?_|refine .outExit rfl ?_|refine .inNormal ?_|refine .inRet ?_|refine .off rfl rfl ?_|refine .offU rfl rfl rfl ?_|(apply W.y rfl rfl;first|exact .move rfl|exact .assign rfl|exact .fieldC rfl|exact .loadW rfl (by (first|apply Ld.oneC|apply Ld.two|apply Ld.three|apply Ld.four|apply Ld.five);repeat(first|assumption|exact Row.cell (by assumption) (by first|rfl|assumption)))|exact .nilCheck rfl|exact .lenC rfl|exact .lenStrC rfl|exact .extract rfl rfl|exact .not rfl|exact .pickT rfl rfl|exact .pickF rfl rfl|exact .buildC rfl rfl|exact .indexC _ rfl rfl rfl (by omega)|exact .indexC 0 rfl rfl rfl (by omega)|exact .indexC 1 rfl rfl rfl (by omega)|exact .indexC 2 rfl rfl rfl (by omega)|exact .indexArrC _ rfl rfl rfl (by omega)|exact .indexArrC 0 rfl rfl rfl (by omega)|exact .indexArrC 1 rfl rfl rfl (by omega)|exact .indexArrC 2 rfl rfl rfl (by omega)|exact .add _ rfl rfl (wrap_i64 (by omega))|exact .sub _ rfl rfl (wrap_i64 (by omega))|exact .rem _ rfl rfl (by decide) (Int.tmod_eq_emod_of_nonneg (by omega))|exact .cmpT rfl rfl rfl (by unfold cmpP;omega)|exact .cmpF rfl rfl rfl (by unfold cmpP;omega)|fail)|fail)
  refine C.draw 12 (fun wq => Keep Non w3 wq) [11] mixed rfl (fun w4 kw4 ew4 => ?_)
  ((refine .take 0 rfl (by kernel_rfl) rfl rfl (.move rfl) ?_); (refine .take 1 rfl (by kernel_rfl) rfl rfl (.move rfl) ?_); (refine .take 2 rfl (by kernel_rfl) rfl rfl (.nilCheck rfl) ?_); (refine .take 3 rfl (by kernel_rfl) rfl rfl (.fieldC rfl) ?_); (refine .read 4 rfl (by kernel_rfl) rfl rfl (by assumption) (.load rfl (fun w hw => (by (first|apply Ld.oneC|apply Ld.two|apply Ld.three|apply Ld.four|apply Ld.five);repeat(apply Keep.cell hw;(first|assumption|exact Row.cell (by assumption) (by first|rfl|assumption));first|exact non_not _|assumption|(intro e;omega)|(simp;omega))))) ?_); (refine .take 5 rfl (by kernel_rfl) rfl rfl (.rem _ rfl rfl (by decide) (Int.tmod_eq_emod_of_nonneg (by omega))) ?_); (refine .read 6 rfl (by kernel_rfl) rfl rfl (by assumption) (.load rfl (fun w hw => (by (first|apply Ld.oneC|apply Ld.two|apply Ld.three|apply Ld.four|apply Ld.five);repeat(apply Keep.cell hw;(first|assumption|exact Row.cell (by assumption) (by first|rfl|assumption));first|exact non_not _|assumption|(intro e;omega)|(simp;omega))))) ?_); (refine .take 8 rfl (by kernel_rfl) rfl rfl (.nilCheck rfl) ?_); (refine .take 9 rfl (by kernel_rfl) rfl rfl (.fieldC rfl) ?_))
  have hd4 := ((hd.keep k02 (fun k _ => non_not k)).keep k3 (S := fun k => k = b) (fun k hk e => hG (e ▸ hk))).keep kw4 (fun k _ => non_not k)
  refine D.one 7 rfl (by kernel_rfl) rfl rfl (St.callC rfl (fown_spec G va vd d w4 hd4)) (fun v5 w5 h5 => ⟨fun _ hS => hS.then (by obtain ⟨_, _, _, _, k⟩ := h5; exact k), ?_⟩)
  obtain ⟨va5, vd5, rfl, h5, k5⟩ := h5
  ((refine .take 10 rfl (by kernel_rfl) rfl rfl (Y.indexArrC ((last + 1) % 12) rfl rfl (by omega) (by omega)) ?_))
  have hn3 : (splice cs (0 + 24) [.int .i64 ((last : Int) + 1)]).length = 26 := by rw [splice_length (by simp [hn])]; exact hn
  have hr5 := (hr3.keep kw4 (non_not _)).keep k5 (non_not _)
  have s4 := kw4.size
  have s5 := k5.size
  refine D.one0 11 rfl (by kernel_rfl) rfl (St.storeC rfl rfl rfl hr5 (by rw [hn3]; show 0 + 0 + (last + 1) % 12 * 2 + 2 ≤ 26; omega) (by simp [Value.cells, slice_one h5.1, slice_one h5.2])) (fun v6 w6 h6 => ⟨fun h => absurd h (by decide), ?_⟩)
  have hr6 := h6.row
  have k6 := h6.keep
  have s6 := h6.size
  simp only [Value.cells] at hr6
  have hc6 : (splice (splice cs (0 + 24) [.int .i64 ((last : Int) + 1)]) (0 + 0 + (last + 1) % 12 * 2) [va5, vd5])[25]? = some (.int .i64 ds.length) := by
    rw [splice_get (by simp only [hn3, List.length_cons, List.length_nil]; omega), if_neg (by simp; omega), splice_get (by simp [hn]), if_neg (by simp)]
    exact hck
  have hn6 : (splice (splice cs (0 + 24) [.int .i64 ((last : Int) + 1)]) (0 + 0 + (last + 1) % 12 * 2) [va5, vd5]).length = 26 := by rw [splice_length (by simp only [hn3, List.length_cons, List.length_nil]; omega)]; exact hn3
  refine D.fin (by kernel_rfl) ?_
  (repeat first|refine .seq ?_|refine .region ?_|refine .block ?_|refine .skip ?_|refine .ret ?_|refine .exit ?_|refine .yes rfl ?_|refine .no rfl ?_|refine .nil ?_|refine .go ?_|refine .thenExit ?_|refine .thenRet ?_|refine .inExit ?_|refine .outExit rfl ?_|refine .inNormal ?_|refine .inRet ?_|refine .off rfl rfl ?_|refine .offU rfl rfl rfl ?_|(apply W.y rfl rfl;first|exact .move rfl|exact .assign rfl|exact .fieldC rfl|exact .loadW rfl (by (first|apply Ld.oneC|apply Ld.two|apply Ld.three|apply Ld.four|apply Ld.five);repeat(first|assumption|exact Row.cell (by assumption) (by first|rfl|assumption)))|exact .nilCheck rfl|exact .lenC rfl|exact .lenStrC rfl|exact .extract rfl rfl|exact .not rfl|exact .pickT rfl rfl|exact .pickF rfl rfl|exact .buildC rfl rfl|exact .indexC _ rfl rfl rfl (by omega)|exact .indexC 0 rfl rfl rfl (by omega)|exact .indexC 1 rfl rfl rfl (by omega)|exact .indexC 2 rfl rfl rfl (by omega)|exact .indexArrC _ rfl rfl rfl (by omega)|exact .indexArrC 0 rfl rfl rfl (by omega)|exact .indexArrC 1 rfl rfl rfl (by omega)|exact .indexArrC 2 rfl rfl rfl (by omega)|exact .add _ rfl rfl (wrap_i64 (by omega))|exact .sub _ rfl rfl (wrap_i64 (by omega))|exact .rem _ rfl rfl (by decide) (Int.tmod_eq_emod_of_nonneg (by omega))|exact .cmpT rfl rfl rfl (by unfold cmpP;omega)|exact .cmpF rfl rfl rfl (by unfold cmpP;omega)|fail)|fail)
  refine W.y rfl rfl (Y.min ((push ds d).length : Int) rfl rfl (by rw [push_length ds d h12]; split <;> omega)) ?_
  (repeat first|refine .seq ?_|refine .region ?_|refine .block ?_|refine .skip ?_|refine .ret ?_|refine .exit ?_|refine .yes rfl ?_|refine .no rfl ?_|refine .nil ?_|refine .go ?_|refine .thenExit ?_|refine .thenRet ?_|refine .inExit ?_|refine .outExit rfl ?_|refine .inNormal ?_|refine .inRet ?_|refine .off rfl rfl ?_|refine .offU rfl rfl rfl ?_|(apply W.y rfl rfl;first|exact .move rfl|exact .assign rfl|exact .fieldC rfl|exact .loadW rfl (by (first|apply Ld.oneC|apply Ld.two|apply Ld.three|apply Ld.four|apply Ld.five);repeat(first|assumption|exact Row.cell (by assumption) (by first|rfl|assumption)))|exact .nilCheck rfl|exact .lenC rfl|exact .lenStrC rfl|exact .extract rfl rfl|exact .not rfl|exact .pickT rfl rfl|exact .pickF rfl rfl|exact .buildC rfl rfl|exact .indexC _ rfl rfl rfl (by omega)|exact .indexC 0 rfl rfl rfl (by omega)|exact .indexC 1 rfl rfl rfl (by omega)|exact .indexC 2 rfl rfl rfl (by omega)|exact .indexArrC _ rfl rfl rfl (by omega)|exact .indexArrC 0 rfl rfl rfl (by omega)|exact .indexArrC 1 rfl rfl rfl (by omega)|exact .indexArrC 2 rfl rfl rfl (by omega)|exact .add _ rfl rfl (wrap_i64 (by omega))|exact .sub _ rfl rfl (wrap_i64 (by omega))|exact .rem _ rfl rfl (by decide) (Int.tmod_eq_emod_of_nonneg (by omega))|exact .cmpT rfl rfl rfl (by unfold cmpP;omega)|exact .cmpF rfl rfl rfl (by unfold cmpP;omega)|fail)|fail)
  refine W.st0 rfl (St.storeC rfl rfl rfl hr6 (by rw [hn6]; show 0 + 25 + 1 ≤ 26; decide) (by simp [Value.cells, Value.oneCell'])) (fun v7 w7 h7 => ?_)
  have hr7 := h7.row
  have k7 := h7.keep
  have s7 := h7.size
  simp only [Value.cells] at hr7
  (repeat first|refine .seq ?_|refine .region ?_|refine .block ?_|refine .skip ?_|refine .ret ?_|refine .exit ?_|refine .yes rfl ?_|refine .no rfl ?_|refine .nil ?_|refine .go ?_|refine .thenExit ?_|refine .thenRet ?_|refine .inExit ?_|refine .outExit rfl ?_|refine .inNormal ?_|refine .inRet ?_|refine .off rfl rfl ?_|refine .offU rfl rfl rfl ?_|(apply W.y rfl rfl;first|exact .move rfl|exact .assign rfl|exact .fieldC rfl|exact .loadW rfl (by (first|apply Ld.oneC|apply Ld.two|apply Ld.three|apply Ld.four|apply Ld.five);repeat(first|assumption|exact Row.cell (by assumption) (by first|rfl|assumption)))|exact .nilCheck rfl|exact .lenC rfl|exact .lenStrC rfl|exact .extract rfl rfl|exact .not rfl|exact .pickT rfl rfl|exact .pickF rfl rfl|exact .buildC rfl rfl|exact .indexC _ rfl rfl rfl (by omega)|exact .indexC 0 rfl rfl rfl (by omega)|exact .indexC 1 rfl rfl rfl (by omega)|exact .indexC 2 rfl rfl rfl (by omega)|exact .indexArrC _ rfl rfl rfl (by omega)|exact .indexArrC 0 rfl rfl rfl (by omega)|exact .indexArrC 1 rfl rfl rfl (by omega)|exact .indexArrC 2 rfl rfl rfl (by omega)|exact .add _ rfl rfl (wrap_i64 (by omega))|exact .sub _ rfl rfl (wrap_i64 (by omega))|exact .rem _ rfl rfl (by decide) (Int.tmod_eq_emod_of_nonneg (by omega))|exact .cmpT rfl rfl rfl (by unfold cmpP;omega)|exact .cmpF rfl rfl rfl (by unfold cmpP;omega)|fail)|fail)
  have hk : Keep (fun k => k = b) w w7 := k02.any.then (k3.then (kw4.any.then (k5.any.then (k6.then k7))))
  have hn7 := splice_length (cs := (splice (splice cs (0 + 24) [.int .i64 ((last : Int) + 1)]) (0 + 0 + (last + 1) % 12 * 2) [va5, vd5])) (o := 0 + 25) (ds := [.int .i64 ((push ds d).length : Int)]) (by rw [hn6]; show 0 + 25 + 1 ≤ 26; decide)
  refine E.ret1 rfl rfl ⟨rfl, hk, _, hr7, hn7.trans hn6, ?_, ?_, ?_, ?_, ?_, ?_⟩
  · rw [splice_get (by rw [hn6]; show 0 + 25 + 1 ≤ 26; decide), if_neg (by simp), splice_get (by simp only [hn3, List.length_cons, List.length_nil]; omega), if_neg (by simp; omega), hc3]
    rfl
  · rw [splice_get (by rw [hn6]; show 0 + 25 + 1 ≤ 26; decide), if_pos (by simp)]
    rfl
  · rw [push_length ds d h12]; omega
  · rw [push_length ds d h12]; omega
  · rintro (h | h)
    · exact hb h
    · have := h.1; omega
  · intro i x hi
    have hpl := push_length ds d h12
    have hix := (List.getElem?_eq_some_iff.1 hi).1
    have fin : ∀ (j : Nat), j < 12 → j ≠ (last + 1) % 12 → ∀ e : Nat, e < 2 → (splice (splice (splice cs (0 + 24) [.int .i64 ((last : Int) + 1)]) (0 + 0 + (last + 1) % 12 * 2) [va5, vd5]) (0 + 25) [.int .i64 ((push ds d).length : Int)])[2 * j + e]? = cs[2 * j + e]? := fun j hj hne e he => by
      rw [splice_get (by rw [hn6]; show 0 + 25 + 1 ≤ 26; decide), if_neg (by simp; omega), splice_get (by simp only [hn3, List.length_cons, List.length_nil]; omega), if_neg (by simp; omega), splice_get (by simp [hn]), if_neg (by simp; omega)]
    have new : ∀ e : Nat, e < 2 → (splice (splice (splice cs (0 + 24) [.int .i64 ((last : Int) + 1)]) (0 + 0 + (last + 1) % 12 * 2) [va5, vd5]) (0 + 25) [.int .i64 ((push ds d).length : Int)])[2 * ((last + 1) % 12) + e]? = [va5, vd5][e]? := fun e he => by
      rw [splice_get (by rw [hn6]; show 0 + 25 + 1 ≤ 26; decide), if_neg (by simp; omega), splice_get (by simp only [hn3, List.length_cons, List.length_nil]; omega), if_pos (by simp; omega)]
      congr 1
      omega
    rcases push_get ds d h12 i x hi with ⟨h1, rfl⟩ | ⟨h1, h2⟩
    · have e1 : last + 1 - (push ds x).length + 1 + i = last + 1 := by omega
      rw [e1]
      refine ⟨va5, vd5, new 0 (by omega), new 1 (by omega), ?_⟩
      exact Deltas.mono (F := Fresh w4 w5) (fun k hk => .inr ⟨by have := hk.1; omega, by have := hk.2; omega⟩) ((h5.keep k6 (fun k hk e => by have h9 := hk.1; have e' : k = b := e; omega)).keep k7 (fun k hk e => by have h9 := hk.1; have e' : k = b := e; omega))
    · obtain ⟨va', vd', g1, g2, g3⟩ := hs _ x h2
      have hj2 := (List.getElem?_eq_some_iff.1 h2).1
      have e1 : last - ds.length + 1 + (ds.length + 1 + i - (push ds d).length) = last + 1 - (push ds d).length + 1 + i := by omega
      rw [e1] at g1 g2
      have hne : (last + 1 - (push ds d).length + 1 + i) % 12 ≠ (last + 1) % 12 := by omega
      have f0 := fin _ (Nat.mod_lt _ (by decide)) hne 0 (by omega)
      have f1 := fin _ (Nat.mod_lt _ (by decide)) hne 1 (by omega)
      exact ⟨va', vd', f0.trans g1, f1.trans g2, Deltas.mono (fun k hk => .inl hk) (g3.keep hk (fun k hk e => hb (e ▸ hk)))⟩

/-! ### Poll -/
/-- A feed's entry. -/
def REntry (F : Nat → Prop) : World → List Value → Int × Delta → Prop := fun w cs e => ∃ va vd, cs = [.int .i64 e.1, va, vd] ∧ Deltas F w va vd e.2
theorem REntry.stable {F : Nat → Prop} : Stable F (REntry F) := fun S w w' cs x k hF h => by
  obtain ⟨va, vd, h1, h2⟩ := h
  exact ⟨va, vd, h1, h2.keep k hF⟩
theorem REntry.mono {F G : Nat → Prop} {w : World} (hF : ∀ k, F k → G k) {cs : List Value} {x : Int × Delta} (h : REntry F w cs x) : REntry G w cs x := by
  obtain ⟨va, vd, h1, h2⟩ := h
  exact ⟨va, vd, h1, h2.mono hF⟩
def Entries (F : Nat → Prop) (w : World) (v : Value) (es : List (Int × Delta)) : Prop := Sl F 3 56 (REntry F) w v es
theorem Entries.keep {F S : Nat → Prop} {w w' : World} (k : Keep S w w') (hF : ∀ k, F k → ¬ S k) {v : Value} {es : List (Int × Delta)} (h : Entries F w v es) : Entries F w' v es := Sl.keep REntry.stable k hF h
theorem Entries.mono {F G : Nat → Prop} {w : World} (hF : ∀ k, F k → G k) {v : Value} {es : List (Int × Delta)} (h : Entries F w v es) : Entries G w v es := Sl.mono hF (fun _ _ h => REntry.mono hF h) h

theorem clipe_spec (F : Nat → Prop) (v : Value) (es : List (Int × Delta)) (w : World) (h : Entries F w v es) :
    Meets Try.prog 28 #[v] w (fun r w' => Entries F w r es ∧ w' = w) := by
  have h' := h
  obtain ⟨A, c, rfl, hc, hn, hb, _⟩ := h
  have hcl := Sl.clip h'
  refine Meets.enter Try.func28 Try.ntmps28 rfl rfl ?_
  (repeat first|refine .seq ?_|refine .region ?_|refine .block ?_|refine .skip ?_|refine .ret ?_|refine .exit ?_|refine .yes rfl ?_|refine .no rfl ?_|refine .nil ?_|refine .go ?_|refine .thenExit ?_|refine .thenRet ?_|refine .inExit ?_|refine .outExit rfl ?_|refine .inNormal ?_|refine .inRet ?_|refine .off rfl rfl ?_|refine .offU rfl rfl rfl ?_|(apply W.y rfl rfl;first|exact .move rfl|exact .assign rfl|exact .fieldC rfl|exact .loadW rfl (by (first|apply Ld.oneC|apply Ld.two|apply Ld.three|apply Ld.four|apply Ld.five);repeat(first|assumption|exact Row.cell (by assumption) (by first|rfl|assumption)))|exact .nilCheck rfl|exact .lenC rfl|exact .lenStrC rfl|exact .extract rfl rfl|exact .not rfl|exact .pickT rfl rfl|exact .pickF rfl rfl|exact .buildC rfl rfl|exact .indexC _ rfl rfl rfl (by omega)|exact .indexC 0 rfl rfl rfl (by omega)|exact .indexC 1 rfl rfl rfl (by omega)|exact .indexC 2 rfl rfl rfl (by omega)|exact .indexArrC _ rfl rfl rfl (by omega)|exact .indexArrC 0 rfl rfl rfl (by omega)|exact .indexArrC 1 rfl rfl rfl (by omega)|exact .indexArrC 2 rfl rfl rfl (by omega)|exact .add _ rfl rfl (wrap_i64 (by omega))|exact .sub _ rfl rfl (wrap_i64 (by omega))|exact .rem _ rfl rfl (by decide) (Int.tmod_eq_emod_of_nonneg (by omega))|exact .cmpT rfl rfl rfl (by unfold cmpP;omega)|exact .cmpF rfl rfl rfl (by unfold cmpP;omega)|fail)|fail)
  refine W.y rfl rfl (Y.cut3 es.length es.length rfl rfl rfl rfl rfl (Nat.le_refl _) hc) ?_
  (repeat first|refine .seq ?_|refine .region ?_|refine .block ?_|refine .skip ?_|refine .ret ?_|refine .exit ?_|refine .yes rfl ?_|refine .no rfl ?_|refine .nil ?_|refine .go ?_|refine .thenExit ?_|refine .thenRet ?_|refine .inExit ?_|refine .outExit rfl ?_|refine .inNormal ?_|refine .inRet ?_|refine .off rfl rfl ?_|refine .offU rfl rfl rfl ?_|(apply W.y rfl rfl;first|exact .move rfl|exact .assign rfl|exact .fieldC rfl|exact .loadW rfl (by (first|apply Ld.oneC|apply Ld.two|apply Ld.three|apply Ld.four|apply Ld.five);repeat(first|assumption|exact Row.cell (by assumption) (by first|rfl|assumption)))|exact .nilCheck rfl|exact .lenC rfl|exact .lenStrC rfl|exact .extract rfl rfl|exact .not rfl|exact .pickT rfl rfl|exact .pickF rfl rfl|exact .buildC rfl rfl|exact .indexC _ rfl rfl rfl (by omega)|exact .indexC 0 rfl rfl rfl (by omega)|exact .indexC 1 rfl rfl rfl (by omega)|exact .indexC 2 rfl rfl rfl (by omega)|exact .indexArrC _ rfl rfl rfl (by omega)|exact .indexArrC 0 rfl rfl rfl (by omega)|exact .indexArrC 1 rfl rfl rfl (by omega)|exact .indexArrC 2 rfl rfl rfl (by omega)|exact .add _ rfl rfl (wrap_i64 (by omega))|exact .sub _ rfl rfl (wrap_i64 (by omega))|exact .rem _ rfl rfl (by decide) (Int.tmod_eq_emod_of_nonneg (by omega))|exact .cmpT rfl rfl rfl (by unfold cmpP;omega)|exact .cmpF rfl rfl rfl (by unfold cmpP;omega)|fail)|fail)
  exact E.ret1 rfl rfl ⟨hcl, rfl⟩

/-- The entries that are kept: their numbers and their deltas. -/
def numbered (first : Nat) (ds : List Delta) : List (Int × Delta) := (ds.zipIdx first).map fun p => ((p.2 : Int), p.1)
theorem numbered_length (first : Nat) (ds : List Delta) : (numbered first ds).length = ds.length := by simp [numbered]
theorem numbered_get (first : Nat) (ds : List Delta) (i : Nat) : (numbered first ds)[i]? = (ds[i]?).map fun d => (((first + i : Nat) : Int), d) := by
  simp [numbered, List.getElem?_zipIdx]
  cases ds[i]? <;> simp
/-- What Poll answers. -/
def pollCode (last : Nat) (kept : Nat) (after most : Int) : Int := if after < 0 ∨ (last : Int) < after then 190 else if most < 1 then 1 else if after < (last : Int) - kept then 200 else 0
def pollList (last : Nat) (ds : List Delta) (after most : Int) : List (Int × Delta) := if pollCode last ds.length after most = 0 then ((numbered (last - ds.length + 1) ds).drop (after.toNat - (last - ds.length))).take most.toNat else []

set_option maxHeartbeats 1600000 in
theorem poll_no (F : Nat → Prop) (b last : Nat) (ds : List Delta) (after most : Int) (w : World) (h : FeedAt F w b last ds) (hl : last ≤ 1099511627776) (hc : pollCode last ds.length after most ≠ 0) :
    Meets Try.prog 12 #[.pointer (some ⟨b, 0, none⟩), .int .i64 after, .int .i64 most] w (fun v w' => v = .tuple #[.slice none 0 0, .int .i64 (pollCode last ds.length after most)] ∧ Keep Non w w') := by
  obtain ⟨cs, hr, hn, hcl, hck, h12, hle, hb, hs⟩ := id h
  unfold pollCode at hc ⊢
  refine Meets.enter Try.func12 Try.ntmps12 rfl rfl ?_
  (repeat first|refine .seq ?_|refine .region ?_|refine .block ?_|refine .skip ?_|refine .ret ?_|refine .exit ?_|refine .yes rfl ?_|refine .no rfl ?_|refine .nil ?_|refine .go ?_|refine .thenExit ?_|refine .thenRet ?_|refine .inExit ?_|refine .outExit rfl ?_|refine .inNormal ?_|refine .inRet ?_|refine .off rfl rfl ?_|refine .offU rfl rfl rfl ?_|(apply W.y rfl rfl;first|exact .move rfl|exact .assign rfl|exact .fieldC rfl|exact .loadW rfl (by (first|apply Ld.oneC|apply Ld.two|apply Ld.three|apply Ld.four|apply Ld.five);repeat(first|assumption|exact Row.cell (by assumption) (by first|rfl|assumption)))|exact .nilCheck rfl|exact .lenC rfl|exact .lenStrC rfl|exact .extract rfl rfl|exact .not rfl|exact .pickT rfl rfl|exact .pickF rfl rfl|exact .buildC rfl rfl|exact .indexC _ rfl rfl rfl (by omega)|exact .indexC 0 rfl rfl rfl (by omega)|exact .indexC 1 rfl rfl rfl (by omega)|exact .indexC 2 rfl rfl rfl (by omega)|exact .indexArrC _ rfl rfl rfl (by omega)|exact .indexArrC 0 rfl rfl rfl (by omega)|exact .indexArrC 1 rfl rfl rfl (by omega)|exact .indexArrC 2 rfl rfl rfl (by omega)|exact .add _ rfl rfl (wrap_i64 (by omega))|exact .sub _ rfl rfl (wrap_i64 (by omega))|exact .rem _ rfl rfl (by decide) (Int.tmod_eq_emod_of_nonneg (by omega))|exact .cmpT rfl rfl rfl (by unfold cmpP;omega)|exact .cmpF rfl rfl rfl (by unfold cmpP;omega)|fail)|fail)
  by_cases h0 : after < 0
  · rw [if_pos (.inl h0)]
    (repeat first|refine .seq ?_|refine .region ?_|refine .block ?_|refine .skip ?_|refine .ret ?_|refine .exit ?_|refine .yes rfl ?_|refine .no rfl ?_|refine .nil ?_|refine .go ?_|refine .thenExit ?_|refine .thenRet ?_|refine .inExit ?_|refine .outExit rfl ?_|refine .inNormal ?_|refine .inRet ?_|refine .off rfl rfl ?_|refine .offU rfl rfl rfl ?_|(apply W.y rfl rfl;first|exact .move rfl|exact .assign rfl|exact .fieldC rfl|exact .loadW rfl (by (first|apply Ld.oneC|apply Ld.two|apply Ld.three|apply Ld.four|apply Ld.five);repeat(first|assumption|exact Row.cell (by assumption) (by first|rfl|assumption)))|exact .nilCheck rfl|exact .lenC rfl|exact .lenStrC rfl|exact .extract rfl rfl|exact .not rfl|exact .pickT rfl rfl|exact .pickF rfl rfl|exact .buildC rfl rfl|exact .indexC _ rfl rfl rfl (by omega)|exact .indexC 0 rfl rfl rfl (by omega)|exact .indexC 1 rfl rfl rfl (by omega)|exact .indexC 2 rfl rfl rfl (by omega)|exact .indexArrC _ rfl rfl rfl (by omega)|exact .indexArrC 0 rfl rfl rfl (by omega)|exact .indexArrC 1 rfl rfl rfl (by omega)|exact .indexArrC 2 rfl rfl rfl (by omega)|exact .add _ rfl rfl (wrap_i64 (by omega))|exact .sub _ rfl rfl (wrap_i64 (by omega))|exact .rem _ rfl rfl (by decide) (Int.tmod_eq_emod_of_nonneg (by omega))|exact .cmpT rfl rfl rfl (by unfold cmpP;omega)|exact .cmpF rfl rfl rfl (by unfold cmpP;omega)|fail)|fail)
    exact E.ret2 rfl rfl rfl ⟨rfl, Keep.refl _ _⟩
  by_cases h1 : (last : Int) < after
  · rw [if_pos (.inr h1)]
    (repeat first|refine .seq ?_|refine .region ?_|refine .block ?_|refine .skip ?_|refine .ret ?_|refine .exit ?_|refine .yes rfl ?_|refine .no rfl ?_|refine .nil ?_|refine .go ?_|refine .thenExit ?_|refine .thenRet ?_|refine .inExit ?_|refine .outExit rfl ?_|refine .inNormal ?_|refine .inRet ?_|refine .off rfl rfl ?_|refine .offU rfl rfl rfl ?_|(apply W.y rfl rfl;first|exact .move rfl|exact .assign rfl|exact .fieldC rfl|exact .loadW rfl (by (first|apply Ld.oneC|apply Ld.two|apply Ld.three|apply Ld.four|apply Ld.five);repeat(first|assumption|exact Row.cell (by assumption) (by first|rfl|assumption)))|exact .nilCheck rfl|exact .lenC rfl|exact .lenStrC rfl|exact .extract rfl rfl|exact .not rfl|exact .pickT rfl rfl|exact .pickF rfl rfl|exact .buildC rfl rfl|exact .indexC _ rfl rfl rfl (by omega)|exact .indexC 0 rfl rfl rfl (by omega)|exact .indexC 1 rfl rfl rfl (by omega)|exact .indexC 2 rfl rfl rfl (by omega)|exact .indexArrC _ rfl rfl rfl (by omega)|exact .indexArrC 0 rfl rfl rfl (by omega)|exact .indexArrC 1 rfl rfl rfl (by omega)|exact .indexArrC 2 rfl rfl rfl (by omega)|exact .add _ rfl rfl (wrap_i64 (by omega))|exact .sub _ rfl rfl (wrap_i64 (by omega))|exact .rem _ rfl rfl (by decide) (Int.tmod_eq_emod_of_nonneg (by omega))|exact .cmpT rfl rfl rfl (by unfold cmpP;omega)|exact .cmpF rfl rfl rfl (by unfold cmpP;omega)|fail)|fail)
    exact E.ret2 rfl rfl rfl ⟨rfl, Keep.refl _ _⟩
  rw [if_neg (by omega)] at hc ⊢
  by_cases h2 : most < 1
  · rw [if_pos h2]
    (repeat first|refine .seq ?_|refine .region ?_|refine .block ?_|refine .skip ?_|refine .ret ?_|refine .exit ?_|refine .yes rfl ?_|refine .no rfl ?_|refine .nil ?_|refine .go ?_|refine .thenExit ?_|refine .thenRet ?_|refine .inExit ?_|refine .outExit rfl ?_|refine .inNormal ?_|refine .inRet ?_|refine .off rfl rfl ?_|refine .offU rfl rfl rfl ?_|(apply W.y rfl rfl;first|exact .move rfl|exact .assign rfl|exact .fieldC rfl|exact .loadW rfl (by (first|apply Ld.oneC|apply Ld.two|apply Ld.three|apply Ld.four|apply Ld.five);repeat(first|assumption|exact Row.cell (by assumption) (by first|rfl|assumption)))|exact .nilCheck rfl|exact .lenC rfl|exact .lenStrC rfl|exact .extract rfl rfl|exact .not rfl|exact .pickT rfl rfl|exact .pickF rfl rfl|exact .buildC rfl rfl|exact .indexC _ rfl rfl rfl (by omega)|exact .indexC 0 rfl rfl rfl (by omega)|exact .indexC 1 rfl rfl rfl (by omega)|exact .indexC 2 rfl rfl rfl (by omega)|exact .indexArrC _ rfl rfl rfl (by omega)|exact .indexArrC 0 rfl rfl rfl (by omega)|exact .indexArrC 1 rfl rfl rfl (by omega)|exact .indexArrC 2 rfl rfl rfl (by omega)|exact .add _ rfl rfl (wrap_i64 (by omega))|exact .sub _ rfl rfl (wrap_i64 (by omega))|exact .rem _ rfl rfl (by decide) (Int.tmod_eq_emod_of_nonneg (by omega))|exact .cmpT rfl rfl rfl (by unfold cmpP;omega)|exact .cmpF rfl rfl rfl (by unfold cmpP;omega)|fail)|fail)
    exact E.ret2 rfl rfl rfl ⟨rfl, Keep.refl _ _⟩
  rw [if_neg h2] at hc ⊢
  have h3 : after < (last : Int) - ds.length := by
    by_cases h3 : after < (last : Int) - ds.length
    · exact h3
    · rw [if_neg h3] at hc; exact absurd rfl hc
  rw [if_pos h3]
  (repeat first|refine .seq ?_|refine .region ?_|refine .block ?_|refine .skip ?_|refine .ret ?_|refine .exit ?_|refine .yes rfl ?_|refine .no rfl ?_|refine .nil ?_|refine .go ?_|refine .thenExit ?_|refine .thenRet ?_|refine .inExit ?_|refine .outExit rfl ?_|refine .inNormal ?_|refine .inRet ?_|refine .off rfl rfl ?_|refine .offU rfl rfl rfl ?_|(apply W.y rfl rfl;first|exact .move rfl|exact .assign rfl|exact .fieldC rfl|exact .loadW rfl (by (first|apply Ld.oneC|apply Ld.two|apply Ld.three|apply Ld.four|apply Ld.five);repeat(first|assumption|exact Row.cell (by assumption) (by first|rfl|assumption)))|exact .nilCheck rfl|exact .lenC rfl|exact .lenStrC rfl|exact .extract rfl rfl|exact .not rfl|exact .pickT rfl rfl|exact .pickF rfl rfl|exact .buildC rfl rfl|exact .indexC _ rfl rfl rfl (by omega)|exact .indexC 0 rfl rfl rfl (by omega)|exact .indexC 1 rfl rfl rfl (by omega)|exact .indexC 2 rfl rfl rfl (by omega)|exact .indexArrC _ rfl rfl rfl (by omega)|exact .indexArrC 0 rfl rfl rfl (by omega)|exact .indexArrC 1 rfl rfl rfl (by omega)|exact .indexArrC 2 rfl rfl rfl (by omega)|exact .add _ rfl rfl (wrap_i64 (by omega))|exact .sub _ rfl rfl (wrap_i64 (by omega))|exact .rem _ rfl rfl (by decide) (Int.tmod_eq_emod_of_nonneg (by omega))|exact .cmpT rfl rfl rfl (by unfold cmpP;omega)|exact .cmpF rfl rfl rfl (by unfold cmpP;omega)|fail)|fail)
  refine W.st rfl rfl (St.callC rfl (first_spec F b last ds w h hl)) (fun v1 w1 h4 => ?_)
  obtain ⟨rfl, k1⟩ := h4
  (repeat first|refine .seq ?_|refine .region ?_|refine .block ?_|refine .skip ?_|refine .ret ?_|refine .exit ?_|refine .yes rfl ?_|refine .no rfl ?_|refine .nil ?_|refine .go ?_|refine .thenExit ?_|refine .thenRet ?_|refine .inExit ?_|refine .outExit rfl ?_|refine .inNormal ?_|refine .inRet ?_|refine .off rfl rfl ?_|refine .offU rfl rfl rfl ?_|(apply W.y rfl rfl;first|exact .move rfl|exact .assign rfl|exact .fieldC rfl|exact .loadW rfl (by (first|apply Ld.oneC|apply Ld.two|apply Ld.three|apply Ld.four|apply Ld.five);repeat(first|assumption|exact Row.cell (by assumption) (by first|rfl|assumption)))|exact .nilCheck rfl|exact .lenC rfl|exact .lenStrC rfl|exact .extract rfl rfl|exact .not rfl|exact .pickT rfl rfl|exact .pickF rfl rfl|exact .buildC rfl rfl|exact .indexC _ rfl rfl rfl (by omega)|exact .indexC 0 rfl rfl rfl (by omega)|exact .indexC 1 rfl rfl rfl (by omega)|exact .indexC 2 rfl rfl rfl (by omega)|exact .indexArrC _ rfl rfl rfl (by omega)|exact .indexArrC 0 rfl rfl rfl (by omega)|exact .indexArrC 1 rfl rfl rfl (by omega)|exact .indexArrC 2 rfl rfl rfl (by omega)|exact .add _ rfl rfl (wrap_i64 (by omega))|exact .sub _ rfl rfl (wrap_i64 (by omega))|exact .rem _ rfl rfl (by decide) (Int.tmod_eq_emod_of_nonneg (by omega))|exact .cmpT rfl rfl rfl (by unfold cmpP;omega)|exact .cmpF rfl rfl rfl (by unfold cmpP;omega)|fail)|fail)
  exact E.ret2 rfl rfl rfl ⟨rfl, k1⟩
end Go.Proofs.Ytkehmehodgcdfaa
