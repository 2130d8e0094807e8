/- Entries of one's own: read, kept, written over. -/
import Derived.Test.YtkehmehodgcdfaaGh
namespace Go.Proofs.Ytkehmehodgcdfaa
open Vb Go.RowKit

theorem EAt.keep {br S : Nat → Prop} {lo hi : Nat} {w w' : World} {A : Option Addr} {j : Nat} {e : Int × Delta} (h : EAt br lo hi w A j e) (k : Keep S w w') (h1 : ∀ k, br k → ¬ S k) (h2 : ∀ k, lo ≤ k → k < hi → ¬ S k) : EAt br lo hi w' A j e := by
  obtain ⟨b, o, va, vd, g1, g2, g3, g4, g5, g6⟩ := h
  exact ⟨b, o, va, vd, g1, g2, k.cell g3 (h1 b g2), k.cell g4 (h1 b g2), k.cell g5 (h1 b g2), g6.keep k h2⟩
theorem EW.keep {base : Nat} {S : Nat → Prop} {w w' : World} {v : Value} {es : List (Int × Delta)} (h : EW base w v es) (k : Keep S w w') (hS : ∀ k, base ≤ k → k < w.heap.size → ¬ S k) : EW base w' v es := by
  obtain ⟨A, c, br, lo, hi, h1, h2, h3, h4, h5⟩ := h
  have s := k.size
  refine ⟨A, c, br, lo, hi, h1, h2, h3, fun j hj => ⟨(h4 j hj).1, by have := (h4 j hj).2; omega⟩, fun j e he => ?_⟩
  obtain ⟨g1, g2, g3, g4, g5, g6⟩ := h5 j e he
  exact ⟨g1.keep k (fun k hk => hS k (h4 k hk).1 (h4 k hk).2) (fun k a b => hS k (by omega) (by omega)), g2, g3, by omega, g5, g6⟩
theorem EW.entries {base : Nat} {w : World} {v : Value} {es : List (Int × Delta)} (h : EW base w v es) (hn : es.length ≤ 1000000) : Entries (fun k => base ≤ k ∧ k < w.heap.size) w v es := by
  obtain ⟨A, c, br, lo, hi, h1, h2, h3, h4, h5⟩ := h
  refine ⟨A, c, h1, h2, h3, by omega, fun j e he => ?_⟩
  obtain ⟨⟨b, o, va, vd, g1, g2, g3, g4, g5, g6⟩, l1, l2, l3, _, _⟩ := h5 j e he
  refine ⟨b, o, [.int .i64 e.1, va, vd], g1, h4 b g2, rfl, fun t u ht => ?_, va, vd, rfl, g6.deltas.mono (fun k hk => ⟨by have := hk.1; omega, by have := hk.2; omega⟩)⟩
  match t, ht with
  | 0, ht => simp at ht; subst ht; exact g3
  | 1, ht => simp at ht; subst ht; exact g4
  | 2, ht => simp at ht; subst ht; exact g5
/-- The same, all of it below top. -/
def EWt (base top : Nat) (w : World) (v : Value) (es : List (Int × Delta)) : Prop := ∃ (A : Option Addr) (c : Nat) (br : Nat → Prop) (lo hi : Nat → Nat), v = .slice A es.length c ∧ es.length ≤ c ∧ (A = none → c = 0) ∧ (∀ k, br k → base ≤ k ∧ k < top) ∧
  ∀ (j : Nat) (e : Int × Delta), es[j]? = some e → EAt br (lo j) (hi j) w A j e ∧ base ≤ lo j ∧ lo j ≤ hi j ∧ hi j ≤ top ∧ (∀ j', j' < j → hi j' ≤ lo j) ∧ ∀ k, lo j ≤ k → k < hi j → ¬ br k
theorem EW.t {base : Nat} {w : World} {v : Value} {es : List (Int × Delta)} (h : EW base w v es) : EWt base w.heap.size w v es := h
theorem EWt.keep {base top : Nat} {S : Nat → Prop} {w w' : World} {v : Value} {es : List (Int × Delta)} (h : EWt base top w v es) (k : Keep S w w') (hS : ∀ k, base ≤ k → k < top → ¬ S k) : EWt base top w' v es := by
  obtain ⟨A, c, br, lo, hi, h1, h2, h3, h4, h5⟩ := h
  refine ⟨A, c, br, lo, hi, h1, h2, h3, h4, fun j e he => ?_⟩
  obtain ⟨g1, g2, g3, g4, g5, g6⟩ := h5 j e he
  exact ⟨g1.keep k (fun k hk => hS k (h4 k hk).1 (h4 k hk).2) (fun k a b => hS k (by omega) (by omega)), g2, g3, g4, g5, g6⟩
theorem EWt.entries {base top : Nat} {w : World} {v : Value} {es : List (Int × Delta)} (h : EWt base top w v es) (hn : es.length ≤ 1000000) : Entries (fun k => base ≤ k ∧ k < top) w v es := by
  obtain ⟨A, c, br, lo, hi, h1, h2, h3, h4, h5⟩ := h
  refine ⟨A, c, h1, h2, h3, by omega, fun j e he => ?_⟩
  obtain ⟨⟨b, o, va, vd, g1, g2, g3, g4, g5, g6⟩, l1, l2, l3, _, _⟩ := h5 j e he
  refine ⟨b, o, [.int .i64 e.1, va, vd], g1, h4 b g2, rfl, fun t u ht => ?_, va, vd, rfl, g6.deltas.mono (fun k hk => ⟨by have := hk.1; omega, by have := hk.2; omega⟩)⟩
  match t, ht with
  | 0, ht => simp at ht; subst ht; exact g3
  | 1, ht => simp at ht; subst ht; exact g4
  | 2, ht => simp at ht; subst ht; exact g5
set_option maxHeartbeats 3200000 in
/-- All entries handed in are written over. -/
theorem spoil_in (base top : Nat) (v vs pf pm : Value) (es : List (Int × Delta)) (w : World) (h : EWt base top w v es) (htop : top ≤ w.heap.size) (hsm : ∀ e ∈ es, e.2.1.length ≤ 1000000 ∧ e.2.2.length ≤ 1000000) (hn : es.length ≤ 1000000) :
    C Try.prog 205 (pc [1,1,1,1,1,1,1,0,1,0] Try.f5) (Post 205 (fun e L' w' => e = .exit 2 ∧ L' = [(2, vs), (10, pf), (12, pm)] ∧ Keep (fun k => base ≤ k ∧ k < top) w w')) [(2, vs), (9, v), (10, pf), (12, pm), (78, .int .i64 es.length), (79, .int .i64 0)] w := by
  obtain ⟨A, c, br, lo, hi, rfl, h2, h3, h4, h5⟩ := h
  refine C.loop (fun m L w' => ∃ (i : Nat), L = [(2, vs), (9, .slice A es.length c), (10, pf), (12, pm), (78, .int .i64 es.length), (79, .int .i64 i)] ∧ m = es.length - i ∧ i ≤ es.length ∧ (∀ j e, i ≤ j → es[j]? = some e → EAt br (lo j) (hi j) w' A j e) ∧ Keep (fun k => base ≤ k ∧ k < top) w w') es.length _
    ⟨0, rfl, rfl, by omega, fun j e _ he => (h5 j e he).1, Keep.refl _ _⟩ ⟨rfl, rfl, rfl, rfl, rfl, rfl, trivial⟩ ?_
  rintro m L w1 ⟨i, rfl, rfl, hi', hE, k1⟩
  by_cases hlt : i < es.length
  · have hei := List.getElem?_eq_getElem hlt
    have hmem := hsm es[i] (List.getElem_mem hlt)
    obtain ⟨b, o, va, vd, rfl, g2, g3, g4, g5, g6⟩ := hE i es[i] (Nat.le_refl _) hei
    obtain ⟨_, l1, l2, l3, _, _⟩ := h5 i es[i] hei
    have s1 := k1.size
    (repeat first|refine .seq ?_|refine .region ?_|refine .block ?_|refine .skip ?_|refine .ret ?_|refine .exit ?_|refine .yes rfl ?_|refine .no rfl ?_|refine .nil ?_|refine .go ?_|refine .thenExit ?_|refine .thenRet ?_|refine .inExit ?_|refine .outExit rfl ?_|refine .inNormal ?_|refine .inRet ?_|refine .off rfl rfl ?_|refine .offU rfl rfl rfl ?_|(apply W.y rfl rfl;first|exact .move rfl|exact .assign rfl|exact .fieldC rfl|exact .loadW rfl (by (first|apply Ld.oneC|apply Ld.two|apply Ld.three|apply Ld.four|apply Ld.five);repeat(first|assumption|exact Row.cell (by assumption) (by first|rfl|assumption)))|exact .nilCheck rfl|exact .lenC rfl|exact .lenStrC rfl|exact .extract rfl rfl|exact .not rfl|exact .pickT rfl rfl|exact .pickF rfl rfl|exact .buildC rfl rfl|exact .indexC _ rfl rfl rfl (by omega)|exact .indexC 0 rfl rfl rfl (by omega)|exact .indexC 1 rfl rfl rfl (by omega)|exact .indexC 2 rfl rfl rfl (by omega)|exact .indexArrC _ rfl rfl rfl (by omega)|exact .indexArrC 0 rfl rfl rfl (by omega)|exact .indexArrC 1 rfl rfl rfl (by omega)|exact .indexArrC 2 rfl rfl rfl (by omega)|exact .add _ rfl rfl (wrap_i64 (by omega))|exact .sub _ rfl rfl (wrap_i64 (by omega))|exact .rem _ rfl rfl (by decide) (Int.tmod_eq_emod_of_nonneg (by omega))|exact .cmpT rfl rfl rfl (by unfold cmpP;omega)|exact .cmpF rfl rfl rfl (by unfold cmpP;omega)|fail)|fail)
    refine W.st rfl rfl (St.callC rfl (spoil_spec (lo i) (hi i) va vd es[i].2 w1 g6 hmem.1 hmem.2 (by omega))) (fun v2 w2 k2 => ?_)
    (repeat first|refine .seq ?_|refine .region ?_|refine .block ?_|refine .skip ?_|refine .ret ?_|refine .exit ?_|refine .yes rfl ?_|refine .no rfl ?_|refine .nil ?_|refine .go ?_|refine .thenExit ?_|refine .thenRet ?_|refine .inExit ?_|refine .outExit rfl ?_|refine .inNormal ?_|refine .inRet ?_|refine .off rfl rfl ?_|refine .offU rfl rfl rfl ?_|(apply W.y rfl rfl;first|exact .move rfl|exact .assign rfl|exact .fieldC rfl|exact .loadW rfl (by (first|apply Ld.oneC|apply Ld.two|apply Ld.three|apply Ld.four|apply Ld.five);repeat(first|assumption|exact Row.cell (by assumption) (by first|rfl|assumption)))|exact .nilCheck rfl|exact .lenC rfl|exact .lenStrC rfl|exact .extract rfl rfl|exact .not rfl|exact .pickT rfl rfl|exact .pickF rfl rfl|exact .buildC rfl rfl|exact .indexC _ rfl rfl rfl (by omega)|exact .indexC 0 rfl rfl rfl (by omega)|exact .indexC 1 rfl rfl rfl (by omega)|exact .indexC 2 rfl rfl rfl (by omega)|exact .indexArrC _ rfl rfl rfl (by omega)|exact .indexArrC 0 rfl rfl rfl (by omega)|exact .indexArrC 1 rfl rfl rfl (by omega)|exact .indexArrC 2 rfl rfl rfl (by omega)|exact .add _ rfl rfl (wrap_i64 (by omega))|exact .sub _ rfl rfl (wrap_i64 (by omega))|exact .rem _ rfl rfl (by decide) (Int.tmod_eq_emod_of_nonneg (by omega))|exact .cmpT rfl rfl rfl (by unfold cmpP;omega)|exact .cmpF rfl rfl rfl (by unfold cmpP;omega)|fail)|fail)
    refine E.again _ _ (by omega) ⟨i + 1, rfl, rfl, by omega, fun j e hj he => ?_, k1.then (k2.mono (fun k _ hk => by omega))⟩ ⟨rfl, rfl, rfl, rfl, rfl, some_int (by omega), trivial⟩
    obtain ⟨_, m1, m2, m3, m4, m5⟩ := h5 j e he
    have m6 := m4 i (by omega)
    exact (hE j e (by omega) he).keep k2 (fun k hk a => (h5 i es[i] hei).2.2.2.2.2 k a.1 a.2 hk) (fun k a b c => by omega)
  · (repeat first|refine .seq ?_|refine .region ?_|refine .block ?_|refine .skip ?_|refine .ret ?_|refine .exit ?_|refine .yes rfl ?_|refine .no rfl ?_|refine .nil ?_|refine .go ?_|refine .thenExit ?_|refine .thenRet ?_|refine .inExit ?_|refine .outExit rfl ?_|refine .inNormal ?_|refine .inRet ?_|refine .off rfl rfl ?_|refine .offU rfl rfl rfl ?_|(apply W.y rfl rfl;first|exact .move rfl|exact .assign rfl|exact .fieldC rfl|exact .loadW rfl (by (first|apply Ld.oneC|apply Ld.two|apply Ld.three|apply Ld.four|apply Ld.five);repeat(first|assumption|exact Row.cell (by assumption) (by first|rfl|assumption)))|exact .nilCheck rfl|exact .lenC rfl|exact .lenStrC rfl|exact .extract rfl rfl|exact .not rfl|exact .pickT rfl rfl|exact .pickF rfl rfl|exact .buildC rfl rfl|exact .indexC _ rfl rfl rfl (by omega)|exact .indexC 0 rfl rfl rfl (by omega)|exact .indexC 1 rfl rfl rfl (by omega)|exact .indexC 2 rfl rfl rfl (by omega)|exact .indexArrC _ rfl rfl rfl (by omega)|exact .indexArrC 0 rfl rfl rfl (by omega)|exact .indexArrC 1 rfl rfl rfl (by omega)|exact .indexArrC 2 rfl rfl rfl (by omega)|exact .add _ rfl rfl (wrap_i64 (by omega))|exact .sub _ rfl rfl (wrap_i64 (by omega))|exact .rem _ rfl rfl (by decide) (Int.tmod_eq_emod_of_nonneg (by omega))|exact .cmpT rfl rfl rfl (by unfold cmpP;omega)|exact .cmpF rfl rfl rfl (by unfold cmpP;omega)|fail)|fail)
    exact E.endX _ ⟨rfl, rfl, k1⟩ ⟨rfl, rfl, rfl, trivial⟩
set_option maxHeartbeats 3200000 in
/-- All entries that were answered are written over. -/
theorem spoil_out (base top : Nat) (v vs pf pm vi : Value) (es : List (Int × Delta)) (w : World) (h : EWt base top w v es) (htop : top ≤ w.heap.size) (hsm : ∀ e ∈ es, e.2.1.length ≤ 1000000 ∧ e.2.2.length ≤ 1000000) (hn : es.length ≤ 1000000) :
    C Try.prog 205 (pc [1,1,1,1,1,1,1,1,0,1,0,0,1,0,0,1,1,0,1,0,1,1,1,1,0] Try.f5) (Post 205 (fun e L' w' => e = .exit 6 ∧ L' = [(2, vs), (10, pf), (12, pm), (15, vi)] ∧ Keep (fun k => base ≤ k ∧ k < top) w w')) [(2, vs), (10, pf), (12, pm), (15, vi), (17, v), (142, .int .i64 es.length), (143, .int .i64 0)] w := by
  obtain ⟨A, c, br, lo, hi, rfl, h2, h3, h4, h5⟩ := h
  refine C.loop (fun m L w' => ∃ (i : Nat), L = [(2, vs), (10, pf), (12, pm), (15, vi), (17, .slice A es.length c), (142, .int .i64 es.length), (143, .int .i64 i)] ∧ m = es.length - i ∧ i ≤ es.length ∧ (∀ j e, i ≤ j → es[j]? = some e → EAt br (lo j) (hi j) w' A j e) ∧ Keep (fun k => base ≤ k ∧ k < top) w w') es.length _
    ⟨0, rfl, rfl, by omega, fun j e _ he => (h5 j e he).1, Keep.refl _ _⟩ ⟨rfl, rfl, rfl, rfl, rfl, rfl, rfl, trivial⟩ ?_
  rintro m L w1 ⟨i, rfl, rfl, hi', hE, k1⟩
  by_cases hlt : i < es.length
  · have hei := List.getElem?_eq_getElem hlt
    have hmem := hsm es[i] (List.getElem_mem hlt)
    obtain ⟨b, o, va, vd, rfl, g2, g3, g4, g5, g6⟩ := hE i es[i] (Nat.le_refl _) hei
    obtain ⟨_, l1, l2, l3, _, _⟩ := h5 i es[i] hei
    have s1 := k1.size
    (repeat first|refine .seq ?_|refine .region ?_|refine .block ?_|refine .skip ?_|refine .ret ?_|refine .exit ?_|refine .yes rfl ?_|refine .no rfl ?_|refine .nil ?_|refine .go ?_|refine .thenExit ?_|refine .thenRet ?_|refine .inExit ?_|refine .outExit rfl ?_|refine .inNormal ?_|refine .inRet ?_|refine .off rfl rfl ?_|refine .offU rfl rfl rfl ?_|(apply W.y rfl rfl;first|exact .move rfl|exact .assign rfl|exact .fieldC rfl|exact .loadW rfl (by (first|apply Ld.oneC|apply Ld.two|apply Ld.three|apply Ld.four|apply Ld.five);repeat(first|assumption|exact Row.cell (by assumption) (by first|rfl|assumption)))|exact .nilCheck rfl|exact .lenC rfl|exact .lenStrC rfl|exact .extract rfl rfl|exact .not rfl|exact .pickT rfl rfl|exact .pickF rfl rfl|exact .buildC rfl rfl|exact .indexC _ rfl rfl rfl (by omega)|exact .indexC 0 rfl rfl rfl (by omega)|exact .indexC 1 rfl rfl rfl (by omega)|exact .indexC 2 rfl rfl rfl (by omega)|exact .indexArrC _ rfl rfl rfl (by omega)|exact .indexArrC 0 rfl rfl rfl (by omega)|exact .indexArrC 1 rfl rfl rfl (by omega)|exact .indexArrC 2 rfl rfl rfl (by omega)|exact .add _ rfl rfl (wrap_i64 (by omega))|exact .sub _ rfl rfl (wrap_i64 (by omega))|exact .rem _ rfl rfl (by decide) (Int.tmod_eq_emod_of_nonneg (by omega))|exact .cmpT rfl rfl rfl (by unfold cmpP;omega)|exact .cmpF rfl rfl rfl (by unfold cmpP;omega)|fail)|fail)
    refine W.st rfl rfl (St.callC rfl (spoil_spec (lo i) (hi i) va vd es[i].2 w1 g6 hmem.1 hmem.2 (by omega))) (fun v2 w2 k2 => ?_)
    (repeat first|refine .seq ?_|refine .region ?_|refine .block ?_|refine .skip ?_|refine .ret ?_|refine .exit ?_|refine .yes rfl ?_|refine .no rfl ?_|refine .nil ?_|refine .go ?_|refine .thenExit ?_|refine .thenRet ?_|refine .inExit ?_|refine .outExit rfl ?_|refine .inNormal ?_|refine .inRet ?_|refine .off rfl rfl ?_|refine .offU rfl rfl rfl ?_|(apply W.y rfl rfl;first|exact .move rfl|exact .assign rfl|exact .fieldC rfl|exact .loadW rfl (by (first|apply Ld.oneC|apply Ld.two|apply Ld.three|apply Ld.four|apply Ld.five);repeat(first|assumption|exact Row.cell (by assumption) (by first|rfl|assumption)))|exact .nilCheck rfl|exact .lenC rfl|exact .lenStrC rfl|exact .extract rfl rfl|exact .not rfl|exact .pickT rfl rfl|exact .pickF rfl rfl|exact .buildC rfl rfl|exact .indexC _ rfl rfl rfl (by omega)|exact .indexC 0 rfl rfl rfl (by omega)|exact .indexC 1 rfl rfl rfl (by omega)|exact .indexC 2 rfl rfl rfl (by omega)|exact .indexArrC _ rfl rfl rfl (by omega)|exact .indexArrC 0 rfl rfl rfl (by omega)|exact .indexArrC 1 rfl rfl rfl (by omega)|exact .indexArrC 2 rfl rfl rfl (by omega)|exact .add _ rfl rfl (wrap_i64 (by omega))|exact .sub _ rfl rfl (wrap_i64 (by omega))|exact .rem _ rfl rfl (by decide) (Int.tmod_eq_emod_of_nonneg (by omega))|exact .cmpT rfl rfl rfl (by unfold cmpP;omega)|exact .cmpF rfl rfl rfl (by unfold cmpP;omega)|fail)|fail)
    refine E.again _ _ (by omega) ⟨i + 1, rfl, rfl, by omega, fun j e hj he => ?_, k1.then (k2.mono (fun k _ hk => by omega))⟩ ⟨rfl, rfl, rfl, rfl, rfl, rfl, some_int (by omega), trivial⟩
    obtain ⟨_, m1, m2, m3, m4, m5⟩ := h5 j e he
    have m6 := m4 i (by omega)
    exact (hE j e (by omega) he).keep k2 (fun k hk a => (h5 i es[i] hei).2.2.2.2.2 k a.1 a.2 hk) (fun k a b c => by omega)
  · (repeat first|refine .seq ?_|refine .region ?_|refine .block ?_|refine .skip ?_|refine .ret ?_|refine .exit ?_|refine .yes rfl ?_|refine .no rfl ?_|refine .nil ?_|refine .go ?_|refine .thenExit ?_|refine .thenRet ?_|refine .inExit ?_|refine .outExit rfl ?_|refine .inNormal ?_|refine .inRet ?_|refine .off rfl rfl ?_|refine .offU rfl rfl rfl ?_|(apply W.y rfl rfl;first|exact .move rfl|exact .assign rfl|exact .fieldC rfl|exact .loadW rfl (by (first|apply Ld.oneC|apply Ld.two|apply Ld.three|apply Ld.four|apply Ld.five);repeat(first|assumption|exact Row.cell (by assumption) (by first|rfl|assumption)))|exact .nilCheck rfl|exact .lenC rfl|exact .lenStrC rfl|exact .extract rfl rfl|exact .not rfl|exact .pickT rfl rfl|exact .pickF rfl rfl|exact .buildC rfl rfl|exact .indexC _ rfl rfl rfl (by omega)|exact .indexC 0 rfl rfl rfl (by omega)|exact .indexC 1 rfl rfl rfl (by omega)|exact .indexC 2 rfl rfl rfl (by omega)|exact .indexArrC _ rfl rfl rfl (by omega)|exact .indexArrC 0 rfl rfl rfl (by omega)|exact .indexArrC 1 rfl rfl rfl (by omega)|exact .indexArrC 2 rfl rfl rfl (by omega)|exact .add _ rfl rfl (wrap_i64 (by omega))|exact .sub _ rfl rfl (wrap_i64 (by omega))|exact .rem _ rfl rfl (by decide) (Int.tmod_eq_emod_of_nonneg (by omega))|exact .cmpT rfl rfl rfl (by unfold cmpP;omega)|exact .cmpF rfl rfl rfl (by unfold cmpP;omega)|fail)|fail)
    exact E.endX _ ⟨rfl, rfl, k1⟩ ⟨rfl, rfl, rfl, rfl, trivial⟩
end Go.Proofs.Ytkehmehodgcdfaa
