/- Contracts of the feed, third part: New; the law's one and awake. -/
import Derived.Test.YtkehmehodgcdfaaFc
namespace Go.Proofs.Ytkehmehodgcdfaa
open Vb Go.RowKit

/-- rhizomelaw20.one -/
theorem one_spec (x : Int) (w : World) :
    Meets Try.prog 10 #[.int .i64 x] w (fun v w' => ∃ va vd, v = .agg #[va, vd] ∧ Deltas (Fresh w w') w' va vd ([[x]], []) ∧ Keep Non w w') := by
  refine Meets.enter Try.func10 Try.ntmps10 rfl rfl ?_
  (repeat first|refine .seq ?_|refine .region ?_|refine .block ?_|refine .skip ?_|refine .ret ?_|refine .exit ?_|refine .yes rfl ?_|refine .no rfl ?_|refine .nil ?_|refine .go ?_|refine .thenExit ?_|refine .thenRet ?_|refine .inExit ?_|refine .outExit rfl ?_|refine .inNormal ?_|refine .inRet ?_|refine .off rfl rfl ?_|refine .offU rfl rfl rfl ?_|(apply W.y rfl rfl;first|exact .move rfl|exact .assign rfl|exact .fieldC rfl|exact .loadW rfl (by (first|apply Ld.oneC|apply Ld.two|apply Ld.three|apply Ld.four|apply Ld.five);repeat(first|assumption|exact Row.cell (by assumption) (by first|rfl|assumption)))|exact .nilCheck rfl|exact .lenC rfl|exact .lenStrC rfl|exact .extract rfl rfl|exact .not rfl|exact .pickT rfl rfl|exact .pickF rfl rfl|exact .buildC rfl rfl|exact .indexC _ rfl rfl rfl (by omega)|exact .indexC 0 rfl rfl rfl (by omega)|exact .indexC 1 rfl rfl rfl (by omega)|exact .indexC 2 rfl rfl rfl (by omega)|exact .indexArrC _ rfl rfl rfl (by omega)|exact .indexArrC 0 rfl rfl rfl (by omega)|exact .indexArrC 1 rfl rfl rfl (by omega)|exact .indexArrC 2 rfl rfl rfl (by omega)|exact .add _ rfl rfl (wrap_i64 (by omega))|exact .sub _ rfl rfl (wrap_i64 (by omega))|exact .rem _ rfl rfl (by decide) (Int.tmod_eq_emod_of_nonneg (by omega))|exact .cmpT rfl rfl rfl (by unfold cmpP;omega)|exact .cmpF rfl rfl rfl (by unfold cmpP;omega)|fail)|fail)
  refine W.st rfl rfl St.allocC (fun v1 w1 hv => ?_)
  obtain ⟨b1, rfl, hN1⟩ := hv
  (repeat first|refine .seq ?_|refine .region ?_|refine .block ?_|refine .skip ?_|refine .ret ?_|refine .exit ?_|refine .yes rfl ?_|refine .no rfl ?_|refine .nil ?_|refine .go ?_|refine .thenExit ?_|refine .thenRet ?_|refine .inExit ?_|refine .outExit rfl ?_|refine .inNormal ?_|refine .inRet ?_|refine .off rfl rfl ?_|refine .offU rfl rfl rfl ?_|(apply W.y rfl rfl;first|exact .move rfl|exact .assign rfl|exact .fieldC rfl|exact .loadW rfl (by (first|apply Ld.oneC|apply Ld.two|apply Ld.three|apply Ld.four|apply Ld.five);repeat(first|assumption|exact Row.cell (by assumption) (by first|rfl|assumption)))|exact .nilCheck rfl|exact .lenC rfl|exact .lenStrC rfl|exact .extract rfl rfl|exact .not rfl|exact .pickT rfl rfl|exact .pickF rfl rfl|exact .buildC rfl rfl|exact .indexC _ rfl rfl rfl (by omega)|exact .indexC 0 rfl rfl rfl (by omega)|exact .indexC 1 rfl rfl rfl (by omega)|exact .indexC 2 rfl rfl rfl (by omega)|exact .indexArrC _ rfl rfl rfl (by omega)|exact .indexArrC 0 rfl rfl rfl (by omega)|exact .indexArrC 1 rfl rfl rfl (by omega)|exact .indexArrC 2 rfl rfl rfl (by omega)|exact .add _ rfl rfl (wrap_i64 (by omega))|exact .sub _ rfl rfl (wrap_i64 (by omega))|exact .rem _ rfl rfl (by decide) (Int.tmod_eq_emod_of_nonneg (by omega))|exact .cmpT rfl rfl rfl (by unfold cmpP;omega)|exact .cmpF rfl rfl rfl (by unfold cmpP;omega)|fail)|fail)
  refine W.st rfl rfl (St.lit (vs := [.int .i64 x]) rfl rfl (by omega) (fun v hv => by simp only [List.mem_singleton] at hv; subst hv; rfl)) (fun v2 w2 h2 => ?_)
  obtain ⟨b2, rfl, hN2⟩ := h2
  refine W.st rfl rfl (St.lit (vs := [.slice (some ⟨b2, 0, none⟩) 1 1]) rfl rfl (by omega) (fun v hv => by simp only [List.mem_singleton] at hv; subst hv; rfl)) (fun v3 w3 h3 => ?_)
  obtain ⟨b3, rfl, hN3⟩ := h3
  (repeat first|refine .seq ?_|refine .region ?_|refine .block ?_|refine .skip ?_|refine .ret ?_|refine .exit ?_|refine .yes rfl ?_|refine .no rfl ?_|refine .nil ?_|refine .go ?_|refine .thenExit ?_|refine .thenRet ?_|refine .inExit ?_|refine .outExit rfl ?_|refine .inNormal ?_|refine .inRet ?_|refine .off rfl rfl ?_|refine .offU rfl rfl rfl ?_|(apply W.y rfl rfl;first|exact .move rfl|exact .assign rfl|exact .fieldC rfl|exact .loadW rfl (by (first|apply Ld.oneC|apply Ld.two|apply Ld.three|apply Ld.four|apply Ld.five);repeat(first|assumption|exact Row.cell (by assumption) (by first|rfl|assumption)))|exact .nilCheck rfl|exact .lenC rfl|exact .lenStrC rfl|exact .extract rfl rfl|exact .not rfl|exact .pickT rfl rfl|exact .pickF rfl rfl|exact .buildC rfl rfl|exact .indexC _ rfl rfl rfl (by omega)|exact .indexC 0 rfl rfl rfl (by omega)|exact .indexC 1 rfl rfl rfl (by omega)|exact .indexC 2 rfl rfl rfl (by omega)|exact .indexArrC _ rfl rfl rfl (by omega)|exact .indexArrC 0 rfl rfl rfl (by omega)|exact .indexArrC 1 rfl rfl rfl (by omega)|exact .indexArrC 2 rfl rfl rfl (by omega)|exact .add _ rfl rfl (wrap_i64 (by omega))|exact .sub _ rfl rfl (wrap_i64 (by omega))|exact .rem _ rfl rfl (by decide) (Int.tmod_eq_emod_of_nonneg (by omega))|exact .cmpT rfl rfl rfl (by unfold cmpP;omega)|exact .cmpF rfl rfl rfl (by unfold cmpP;omega)|fail)|fail)
  have hr1 := (hN1.row.keep hN2.keep (non_not _)).keep hN3.keep (non_not _)
  refine W.st0 rfl (St.storeC rfl rfl rfl hr1 (by simp [Value.cells]) (by simp [Value.cells, Value.oneCell'])) (fun v4 w4 h4 => ?_)
  have hr4 := h4.row
  have s1 := hN1.size
  have s2 := hN2.size
  have s3 := hN3.size
  have s4 := h4.size
  have a1 := hN1.at_
  have a2 := hN2.at_
  have a3 := hN3.at_
  (repeat first|refine .seq ?_|refine .region ?_|refine .block ?_|refine .skip ?_|refine .ret ?_|refine .exit ?_|refine .yes rfl ?_|refine .no rfl ?_|refine .nil ?_|refine .go ?_|refine .thenExit ?_|refine .thenRet ?_|refine .inExit ?_|refine .outExit rfl ?_|refine .inNormal ?_|refine .inRet ?_|refine .off rfl rfl ?_|refine .offU rfl rfl rfl ?_|(apply W.y rfl rfl;first|exact .move rfl|exact .assign rfl|exact .fieldC rfl|exact .loadW rfl (by (first|apply Ld.oneC|apply Ld.two|apply Ld.three|apply Ld.four|apply Ld.five);repeat(first|assumption|exact Row.cell (by assumption) (by first|rfl|assumption)))|exact .nilCheck rfl|exact .lenC rfl|exact .lenStrC rfl|exact .extract rfl rfl|exact .not rfl|exact .pickT rfl rfl|exact .pickF rfl rfl|exact .buildC rfl rfl|exact .indexC _ rfl rfl rfl (by omega)|exact .indexC 0 rfl rfl rfl (by omega)|exact .indexC 1 rfl rfl rfl (by omega)|exact .indexC 2 rfl rfl rfl (by omega)|exact .indexArrC _ rfl rfl rfl (by omega)|exact .indexArrC 0 rfl rfl rfl (by omega)|exact .indexArrC 1 rfl rfl rfl (by omega)|exact .indexArrC 2 rfl rfl rfl (by omega)|exact .add _ rfl rfl (wrap_i64 (by omega))|exact .sub _ rfl rfl (wrap_i64 (by omega))|exact .rem _ rfl rfl (by decide) (Int.tmod_eq_emod_of_nonneg (by omega))|exact .cmpT rfl rfl rfl (by unfold cmpP;omega)|exact .cmpF rfl rfl rfl (by unfold cmpP;omega)|fail)|fail)
  have hr2 := (hN2.row.keep hN3.keep (non_not _)).keep h4.keep (by intro e; omega)
  have hr3 := hN3.row.keep h4.keep (by intro e; omega)
  refine E.retCell rfl rfl (Ld.two (by first|assumption|exact Row.cell (by assumption) (by first|rfl|assumption)) (by first|assumption|exact Row.cell (by assumption) (by first|rfl|assumption))) ⟨_, _, rfl, ⟨⟨_, _, rfl, Nat.le_refl _, fun e => by simp at e, by simp, fun i y hi => ?_⟩, Sl.nil⟩, ((hN1.keep.then hN2.keep).then hN3.keep).put h4 (by omega)⟩
  have hi0 : i = 0 := by have := (List.getElem?_eq_some_iff.1 hi).1; simpa using this
  subst hi0
  simp only [List.getElem?_cons_zero, Option.some.injEq] at hi
  subst hi
  refine ⟨b3, 0, [.slice (some ⟨b2, 0, none⟩) 1 1], rfl, ⟨by omega, by omega⟩, rfl, hr3.cells 0 _ rfl, _, rfl, _, _, rfl, Nat.le_refl _, fun e => by simp at e, by simp, fun i y hi => ?_⟩
  have hi0 : i = 0 := by have := (List.getElem?_eq_some_iff.1 hi).1; simpa using this
  subst hi0
  simp only [List.getElem?_cons_zero, Option.some.injEq] at hi
  subst hi
  exact ⟨b2, 0, [.int .i64 x], rfl, ⟨by omega, by omega⟩, rfl, hr2.cells 0 _ rfl, rfl⟩

theorem FeedAt.mono {F G : Nat → Prop} {w : World} {b last : Nat} {ds : List Delta} (hF : ∀ k, F k → G k) (hb : ¬ G b) (h : FeedAt F w b last ds) : FeedAt G w b last ds := by
  obtain ⟨cs, h1, h2, h3, h4, h5, h6, h7, h8⟩ := h
  refine ⟨cs, h1, h2, h3, h4, h5, h6, hb, fun i d hi => ?_⟩
  obtain ⟨va, vd, g1, g2, g3⟩ := h8 i d hi
  exact ⟨va, vd, g1, g2, g3.mono hF⟩

def full (d : Delta) : Prop := (d.1.isEmpty && d.2.isEmpty) = false
/-- What New takes. -/
structure Good (last : Int) (es : List (Int × Delta)) : Prop where
  low : 0 ≤ last
  high : last ≤ 2147483648
  few : es.length ≤ 12
  fits : (es.length : Int) ≤ last
  each : ∀ (i : Nat) (e : Int × Delta), es[i]? = some e → e.1 = last - es.length + 1 + i ∧ full e.2

set_option maxHeartbeats 3200000 in
theorem new_good (G : Nat → Prop) (last : Int) (vk : Value) (es : List (Int × Delta)) (w : World) (h : Entries G w vk es) (hG : ∀ k, G k → k < w.heap.size) (hg : Good last es) :
    Meets Try.prog 7 #[.int .i64 last, vk] w (fun v w' => ∃ b, v = .tuple #[.pointer (some ⟨b, 0, none⟩), .int .i64 0] ∧ w.heap.size ≤ b ∧ FeedAt (fun k => Fresh w w' k ∧ k ≠ b) w' b last.toNat (es.map (·.2)) ∧ Keep Non w w') := by
  obtain ⟨low, high, few, fits, each⟩ := hg
  obtain ⟨A, c, rfl, hc, hn, hb, he⟩ := h
  refine Meets.enter Try.func7 Try.ntmps7 rfl rfl ?_
  (repeat first|refine .seq ?_|refine .region ?_|refine .block ?_|refine .skip ?_|refine .ret ?_|refine .exit ?_|refine .yes rfl ?_|refine .no rfl ?_|refine .nil ?_|refine .go ?_|refine .thenExit ?_|refine .thenRet ?_|refine .inExit ?_|refine .outExit rfl ?_|refine .inNormal ?_|refine .inRet ?_|refine .off rfl rfl ?_|refine .offU rfl rfl rfl ?_|(apply W.y rfl rfl;first|exact .move rfl|exact .assign rfl|exact .fieldC rfl|exact .loadW rfl (by (first|apply Ld.oneC|apply Ld.two|apply Ld.three|apply Ld.four|apply Ld.five);repeat(first|assumption|exact Row.cell (by assumption) (by first|rfl|assumption)))|exact .nilCheck rfl|exact .lenC rfl|exact .lenStrC rfl|exact .extract rfl rfl|exact .not rfl|exact .pickT rfl rfl|exact .pickF rfl rfl|exact .buildC rfl rfl|exact .indexC _ rfl rfl rfl (by omega)|exact .indexC 0 rfl rfl rfl (by omega)|exact .indexC 1 rfl rfl rfl (by omega)|exact .indexC 2 rfl rfl rfl (by omega)|exact .indexArrC _ rfl rfl rfl (by omega)|exact .indexArrC 0 rfl rfl rfl (by omega)|exact .indexArrC 1 rfl rfl rfl (by omega)|exact .indexArrC 2 rfl rfl rfl (by omega)|exact .add _ rfl rfl (wrap_i64 (by omega))|exact .sub _ rfl rfl (wrap_i64 (by omega))|exact .rem _ rfl rfl (by decide) (Int.tmod_eq_emod_of_nonneg (by omega))|exact .cmpT rfl rfl rfl (by unfold cmpP;omega)|exact .cmpF rfl rfl rfl (by unfold cmpP;omega)|fail)|fail)
  refine W.st rfl rfl (St.box rfl) (fun v1 w1 hv => ?_)
  obtain ⟨b1, rfl, hN1⟩ := hv
  (repeat first|refine .seq ?_|refine .region ?_|refine .block ?_|refine .skip ?_|refine .ret ?_|refine .exit ?_|refine .yes rfl ?_|refine .no rfl ?_|refine .nil ?_|refine .go ?_|refine .thenExit ?_|refine .thenRet ?_|refine .inExit ?_|refine .outExit rfl ?_|refine .inNormal ?_|refine .inRet ?_|refine .off rfl rfl ?_|refine .offU rfl rfl rfl ?_|(apply W.y rfl rfl;first|exact .move rfl|exact .assign rfl|exact .fieldC rfl|exact .loadW rfl (by (first|apply Ld.oneC|apply Ld.two|apply Ld.three|apply Ld.four|apply Ld.five);repeat(first|assumption|exact Row.cell (by assumption) (by first|rfl|assumption)))|exact .nilCheck rfl|exact .lenC rfl|exact .lenStrC rfl|exact .extract rfl rfl|exact .not rfl|exact .pickT rfl rfl|exact .pickF rfl rfl|exact .buildC rfl rfl|exact .indexC _ rfl rfl rfl (by omega)|exact .indexC 0 rfl rfl rfl (by omega)|exact .indexC 1 rfl rfl rfl (by omega)|exact .indexC 2 rfl rfl rfl (by omega)|exact .indexArrC _ rfl rfl rfl (by omega)|exact .indexArrC 0 rfl rfl rfl (by omega)|exact .indexArrC 1 rfl rfl rfl (by omega)|exact .indexArrC 2 rfl rfl rfl (by omega)|exact .add _ rfl rfl (wrap_i64 (by omega))|exact .sub _ rfl rfl (wrap_i64 (by omega))|exact .rem _ rfl rfl (by decide) (Int.tmod_eq_emod_of_nonneg (by omega))|exact .cmpT rfl rfl rfl (by unfold cmpP;omega)|exact .cmpF rfl rfl rfl (by unfold cmpP;omega)|fail)|fail)
  refine C.loop (fun k L w' => ∃ (i : Nat), L = [(6, .pointer (some ⟨b1, 0, none⟩)), (32, .slice A es.length c), (33, .int .i64 es.length), (34, .int .i64 i)] ∧ k = es.length - i ∧ i ≤ es.length ∧ FeedAt (fun k => Fresh w w' k ∧ k ≠ b1) w' b1 (last.toNat - es.length + i) ((es.take i).map (·.2)) ∧ Keep Non w w') es.length _ ⟨0, rfl, rfl, Nat.zero_le _, ?_, hN1.keep⟩ ⟨rfl, rfl, rfl, rfl, trivial⟩ ?_
  · exact ⟨_, hN1.row, rfl, some_int (by omega), rfl, Nat.zero_le _, Nat.zero_le _, fun h => h.2 rfl, fun i d hi => by simp at hi⟩
  rintro k L w' ⟨i, rfl, rfl, hi, hf, hk⟩
  by_cases hlt : i < es.length
  · obtain ⟨b, o, cs1, rfl, hGb, hl1, hc1, va, vd, rfl, hd1⟩ := he i _ (List.getElem?_eq_getElem hlt)
    obtain ⟨g1, g2⟩ := each i _ (List.getElem?_eq_getElem hlt)
    have hcc := hk.cells hc1 (non_not _)
    have hc0 : w'.cell? ⟨b, o + i * 3, none⟩ = some _ := hcc 0 _ rfl
    have hc1 : w'.cell? ⟨b, o + i * 3 + 1, none⟩ = some _ := hcc 1 _ rfl
    have hc2 : w'.cell? ⟨b, o + i * 3 + 2, none⟩ = some _ := hcc 2 _ rfl
    (repeat first|refine .seq ?_|refine .region ?_|refine .block ?_|refine .skip ?_|refine .ret ?_|refine .exit ?_|refine .yes rfl ?_|refine .no rfl ?_|refine .nil ?_|refine .go ?_|refine .thenExit ?_|refine .thenRet ?_|refine .inExit ?_|refine .outExit rfl ?_|refine .inNormal ?_|refine .inRet ?_|refine .off rfl rfl ?_|refine .offU rfl rfl rfl ?_|(apply W.y rfl rfl;first|exact .move rfl|exact .assign rfl|exact .fieldC rfl|exact .loadW rfl (by (first|apply Ld.oneC|apply Ld.two|apply Ld.three|apply Ld.four|apply Ld.five);repeat(first|assumption|exact Row.cell (by assumption) (by first|rfl|assumption)))|exact .nilCheck rfl|exact .lenC rfl|exact .lenStrC rfl|exact .extract rfl rfl|exact .not rfl|exact .pickT rfl rfl|exact .pickF rfl rfl|exact .buildC rfl rfl|exact .indexC _ rfl rfl rfl (by omega)|exact .indexC 0 rfl rfl rfl (by omega)|exact .indexC 1 rfl rfl rfl (by omega)|exact .indexC 2 rfl rfl rfl (by omega)|exact .indexArrC _ rfl rfl rfl (by omega)|exact .indexArrC 0 rfl rfl rfl (by omega)|exact .indexArrC 1 rfl rfl rfl (by omega)|exact .indexArrC 2 rfl rfl rfl (by omega)|exact .add _ rfl rfl (wrap_i64 (by omega))|exact .sub _ rfl rfl (wrap_i64 (by omega))|exact .rem _ rfl rfl (by decide) (Int.tmod_eq_emod_of_nonneg (by omega))|exact .cmpT rfl rfl rfl (by unfold cmpP;omega)|exact .cmpF rfl rfl rfl (by unfold cmpP;omega)|fail)|fail)
    refine W.st rfl rfl St.allocC (fun v2 w2 hv => ?_)
    obtain ⟨b2, rfl, hN2⟩ := hv
    have hr2 := hN2.row
    refine W.st0 rfl (St.storeC rfl rfl rfl hr2 (by simp [Value.cells]) (one3 rfl (slice_one hd1.1) (slice_one hd1.2))) (fun v3 w3 h3 => ?_)
    have hr3 := h3.row
    have k3 := (hN2.keep).put h3 (by have := hN2.at_; omega)
    have hf3 := hf.keep k3 (fun k _ => non_not k) (non_not _)
    obtain ⟨fcs, fr, fn, fcl, fck, f12, fle, fb, fs⟩ := id hf3
    (repeat first|refine .seq ?_|refine .region ?_|refine .block ?_|refine .skip ?_|refine .ret ?_|refine .exit ?_|refine .yes rfl ?_|refine .no rfl ?_|refine .nil ?_|refine .go ?_|refine .thenExit ?_|refine .thenRet ?_|refine .inExit ?_|refine .outExit rfl ?_|refine .inNormal ?_|refine .inRet ?_|refine .off rfl rfl ?_|refine .offU rfl rfl rfl ?_|(apply W.y rfl rfl;first|exact .move rfl|exact .assign rfl|exact .fieldC rfl|exact .loadW rfl (by (first|apply Ld.oneC|apply Ld.two|apply Ld.three|apply Ld.four|apply Ld.five);repeat(first|assumption|exact Row.cell (by assumption) (by first|rfl|assumption)))|exact .nilCheck rfl|exact .lenC rfl|exact .lenStrC rfl|exact .extract rfl rfl|exact .not rfl|exact .pickT rfl rfl|exact .pickF rfl rfl|exact .buildC rfl rfl|exact .indexC _ rfl rfl rfl (by omega)|exact .indexC 0 rfl rfl rfl (by omega)|exact .indexC 1 rfl rfl rfl (by omega)|exact .indexC 2 rfl rfl rfl (by omega)|exact .indexArrC _ rfl rfl rfl (by omega)|exact .indexArrC 0 rfl rfl rfl (by omega)|exact .indexArrC 1 rfl rfl rfl (by omega)|exact .indexArrC 2 rfl rfl rfl (by omega)|exact .add _ rfl rfl (wrap_i64 (by omega))|exact .sub _ rfl rfl (wrap_i64 (by omega))|exact .rem _ rfl rfl (by decide) (Int.tmod_eq_emod_of_nonneg (by omega))|exact .cmpT rfl rfl rfl (by unfold cmpP;omega)|exact .cmpF rfl rfl rfl (by unfold cmpP;omega)|fail)|fail)
    refine C.draw 15 (fun wq => Keep Non w3 wq) [12] mixed rfl (fun w4 kw4 ew4 => ?_)
    ((refine .take 0 rfl (by kernel_rfl) rfl rfl (.fieldC rfl) ?_); (refine .read 1 rfl (by kernel_rfl) rfl rfl (by assumption) (.load rfl (fun w hw => (by (first|apply Ld.oneC|apply Ld.two|apply Ld.three|apply Ld.four|apply Ld.five);repeat(apply Keep.cell hw;(first|assumption|exact Row.cell (by assumption) (by first|rfl|assumption));first|exact non_not _|assumption|(intro e;omega)|(simp;omega))))) ?_); (refine .take 2 rfl (by kernel_rfl) rfl rfl (.move rfl) ?_); (refine .take 3 rfl (by kernel_rfl) rfl rfl (.nilCheck rfl) ?_); (refine .take 4 rfl (by kernel_rfl) rfl rfl (.fieldC rfl) ?_); (refine .read 5 rfl (by kernel_rfl) rfl rfl (by assumption) (.load rfl (fun w hw => (by (first|apply Ld.oneC|apply Ld.two|apply Ld.three|apply Ld.four|apply Ld.five);repeat(apply Keep.cell hw;(first|assumption|exact Row.cell (by assumption) (by first|rfl|assumption));first|exact non_not _|assumption|(intro e;omega)|(simp;omega))))) ?_); (refine .take 6 rfl (by kernel_rfl) rfl rfl (.add _ rfl rfl (wrap_i64 (by omega))) ?_); (first|refine .take 7 rfl (by kernel_rfl) rfl rfl (.cmpT rfl rfl rfl (by unfold cmpP;omega)) ?_|refine .take 7 rfl (by kernel_rfl) rfl rfl (.cmpF rfl rfl rfl (by unfold cmpP;omega)) ?_); (refine .take 8 rfl (by kernel_rfl) rfl rfl (.move rfl) ?_); (first|refine .off 9 rfl (by kernel_rfl) rfl rfl ?_|refine .offU 9 rfl (by kernel_rfl) rfl rfl rfl ?_|refine .take 9 rfl (by kernel_rfl) rfl rfl (.move rfl) ?_); (first|refine .off 10 rfl (by kernel_rfl) rfl rfl ?_|refine .offU 10 rfl (by kernel_rfl) rfl rfl rfl ?_|refine .take 10 rfl (by kernel_rfl) rfl rfl (.fieldC rfl) ?_); (first|refine .off 11 rfl (by kernel_rfl) rfl rfl ?_|refine .offU 11 rfl (by kernel_rfl) rfl rfl rfl ?_|refine .read 11 rfl (by kernel_rfl) rfl rfl (by assumption) (.load rfl (fun w hw => (by (first|apply Ld.oneC|apply Ld.two|apply Ld.three|apply Ld.four|apply Ld.five);repeat(apply Keep.cell hw;(first|assumption|exact Row.cell (by assumption) (by first|rfl|assumption));first|exact non_not _|assumption|(intro e;omega)|(simp;omega))))) ?_))
    have s1 := hN1.size
    have a1 := hN1.at_
    have s3 := k3.size
    have s4 := kw4.size
    have s0 := hk.size
    have hlb := hf.lt
    refine D.one 12 rfl (by kernel_rfl) rfl rfl (St.callC rfl (add_yes _ G b1 _ _ va vd _ w4 (hf3.keep kw4 (fun k _ => non_not k) (non_not _)) (by omega) ((hd1.keep (hk.then k3) (fun k _ => non_not k)).keep kw4 (fun k _ => non_not k)) (fun h => by have := hG _ h; omega) g2)) (fun v5 w5 h5 => ⟨fun h => absurd h (by decide), ?_⟩)
    obtain ⟨rfl, k5, h5⟩ := h5
    have s5 := k5.size
    ((first|refine .off 13 rfl (by kernel_rfl) rfl rfl ?_|refine .offU 13 rfl (by kernel_rfl) rfl rfl rfl ?_|refine .take 13 rfl (by kernel_rfl) rfl rfl (.not rfl) ?_); (first|refine .take 14 rfl (by kernel_rfl) rfl rfl (.pickT rfl rfl) ?_|refine .take 14 rfl (by kernel_rfl) rfl rfl (.pickF rfl rfl) ?_))
    refine D.fin (by kernel_rfl) ?_
    (repeat first|refine .seq ?_|refine .region ?_|refine .block ?_|refine .skip ?_|refine .ret ?_|refine .exit ?_|refine .yes rfl ?_|refine .no rfl ?_|refine .nil ?_|refine .go ?_|refine .thenExit ?_|refine .thenRet ?_|refine .inExit ?_|refine .outExit rfl ?_|refine .inNormal ?_|refine .inRet ?_|refine .off rfl rfl ?_|refine .offU rfl rfl rfl ?_|(apply W.y rfl rfl;first|exact .move rfl|exact .assign rfl|exact .fieldC rfl|exact .loadW rfl (by (first|apply Ld.oneC|apply Ld.two|apply Ld.three|apply Ld.four|apply Ld.five);repeat(first|assumption|exact Row.cell (by assumption) (by first|rfl|assumption)))|exact .nilCheck rfl|exact .lenC rfl|exact .lenStrC rfl|exact .extract rfl rfl|exact .not rfl|exact .pickT rfl rfl|exact .pickF rfl rfl|exact .buildC rfl rfl|exact .indexC _ rfl rfl rfl (by omega)|exact .indexC 0 rfl rfl rfl (by omega)|exact .indexC 1 rfl rfl rfl (by omega)|exact .indexC 2 rfl rfl rfl (by omega)|exact .indexArrC _ rfl rfl rfl (by omega)|exact .indexArrC 0 rfl rfl rfl (by omega)|exact .indexArrC 1 rfl rfl rfl (by omega)|exact .indexArrC 2 rfl rfl rfl (by omega)|exact .add _ rfl rfl (wrap_i64 (by omega))|exact .sub _ rfl rfl (wrap_i64 (by omega))|exact .rem _ rfl rfl (by decide) (Int.tmod_eq_emod_of_nonneg (by omega))|exact .cmpT rfl rfl rfl (by unfold cmpP;omega)|exact .cmpF rfl rfl rfl (by unfold cmpP;omega)|fail)|fail)
    refine E.again _ _ ?_ ⟨i + 1, rfl, rfl, by omega, ?_, ((hk.then k3).then kw4).far k5 (fun j hj => by subst hj; omega)⟩ ⟨rfl, rfl, rfl, rfl, trivial⟩
    · omega
    · have e1 : push ((es.take i).map (·.2)) es[i].2 = (es.take (i + 1)).map (·.2) := by
        unfold push
        rw [if_neg (by simp; omega), List.take_succ_eq_append_getElem hlt, List.map_append]
        rfl
      rw [e1] at h5
      refine FeedAt.mono (fun k hk' => ?_) (fun h => h.2 rfl) h5
      rcases hk' with hk' | hk'
      · exact ⟨⟨hk'.1.1, by have := hk'.1.2; omega⟩, hk'.2⟩
      · exact ⟨⟨by have := hk'.1; omega, hk'.2⟩, by have := hk'.1; omega⟩
  · (repeat first|refine .seq ?_|refine .region ?_|refine .block ?_|refine .skip ?_|refine .ret ?_|refine .exit ?_|refine .yes rfl ?_|refine .no rfl ?_|refine .nil ?_|refine .go ?_|refine .thenExit ?_|refine .thenRet ?_|refine .inExit ?_|refine .outExit rfl ?_|refine .inNormal ?_|refine .inRet ?_|refine .off rfl rfl ?_|refine .offU rfl rfl rfl ?_|(apply W.y rfl rfl;first|exact .move rfl|exact .assign rfl|exact .fieldC rfl|exact .loadW rfl (by (first|apply Ld.oneC|apply Ld.two|apply Ld.three|apply Ld.four|apply Ld.five);repeat(first|assumption|exact Row.cell (by assumption) (by first|rfl|assumption)))|exact .nilCheck rfl|exact .lenC rfl|exact .lenStrC rfl|exact .extract rfl rfl|exact .not rfl|exact .pickT rfl rfl|exact .pickF rfl rfl|exact .buildC rfl rfl|exact .indexC _ rfl rfl rfl (by omega)|exact .indexC 0 rfl rfl rfl (by omega)|exact .indexC 1 rfl rfl rfl (by omega)|exact .indexC 2 rfl rfl rfl (by omega)|exact .indexArrC _ rfl rfl rfl (by omega)|exact .indexArrC 0 rfl rfl rfl (by omega)|exact .indexArrC 1 rfl rfl rfl (by omega)|exact .indexArrC 2 rfl rfl rfl (by omega)|exact .add _ rfl rfl (wrap_i64 (by omega))|exact .sub _ rfl rfl (wrap_i64 (by omega))|exact .rem _ rfl rfl (by decide) (Int.tmod_eq_emod_of_nonneg (by omega))|exact .cmpT rfl rfl rfl (by unfold cmpP;omega)|exact .cmpF rfl rfl rfl (by unfold cmpP;omega)|fail)|fail)
    have e1 : es.take i = es := List.take_of_length_le (by omega)
    rw [e1] at hf
    have e2 : last.toNat - es.length + i = last.toNat := by omega
    rw [e2] at hf
    exact E.ret2 rfl rfl rfl ⟨b1, rfl, by have := hN1.at_; omega, hf, hk⟩
end Go.Proofs.Ytkehmehodgcdfaa
