/- rhizomelaw20.own: entries with memory of their own. -/
import Derived.Test.YtkehmehodgcdfaaGg
namespace Go.Proofs.Ytkehmehodgcdfaa
open Vb Go.RowKit

/-- Entry j of a list: its delta lies between lo and hi, what is read of it elsewhere. -/
def EAt (br : Nat → Prop) (lo hi : Nat) (w : World) (A : Option Addr) (j : Nat) (e : Int × Delta) : Prop := ∃ b o va vd, A = some ⟨b, o, none⟩ ∧ br b ∧ w.cell? ⟨b, o + j * 3, none⟩ = some (.int .i64 e.1) ∧ w.cell? ⟨b, o + j * 3 + 1, none⟩ = some va ∧ w.cell? ⟨b, o + j * 3 + 2, none⟩ = some vd ∧ DW lo hi w va vd e.2
/-- Entries whose deltas lie in memory of their own, each in a range of its own. -/
def EW (base : Nat) (w : World) (v : Value) (es : List (Int × Delta)) : Prop := ∃ (A : Option Addr) (c : Nat) (br : Nat → Prop) (lo hi : Nat → Nat), v = .slice A es.length c ∧ es.length ≤ c ∧ (A = none → c = 0) ∧ (∀ k, br k → base ≤ k ∧ k < w.heap.size) ∧
  ∀ (j : Nat) (e : Int × Delta), es[j]? = some e → EAt br (lo j) (hi j) w A j e ∧ base ≤ lo j ∧ lo j ≤ hi j ∧ hi j ≤ w.heap.size ∧ (∀ j', j' < j → hi j' ≤ lo j) ∧ ∀ k, lo j ≤ k → k < hi j → ¬ br k
/-- The loop's state: what the first i of the row's cells say. -/
def OE (base : Nat) (w : World) (vo : Value) (cs : List Value) (lo hi : Nat → Nat) (es : List (Int × Delta)) (i : Nat) : Prop :=
  ∀ (j : Nat) (e : Int × Delta), j < i → es[j]? = some e → ∃ va vd, (cs.drop (j * 3)).take 3 = [.int .i64 e.1, va, vd] ∧ DW (lo j) (hi j) w va vd e.2 ∧ base ≤ lo j ∧ lo j ≤ hi j ∧ hi j ≤ w.heap.size ∧ (∀ j', j' < j → hi j' ≤ lo j) ∧ ∀ k, lo j ≤ k → k < hi j → vo.ownBlock ≠ some k
theorem OE.keep {base : Nat} {w w' : World} {vo : Value} {cs : List Value} {lo hi : Nat → Nat} {es : List (Int × Delta)} {i : Nat} (h : OE base w vo cs lo hi es i) (k : Keep Non w w') : OE base w' vo cs lo hi es i := fun j e hj he => by
  obtain ⟨va, vd, h1, h2, h3, h4, h5, h6, h7⟩ := h j e hj he
  exact ⟨va, vd, h1, h2.keep k (fun _ _ _ => non_not _), h3, h4, by have := k.size; omega, h6, h7⟩
set_option maxHeartbeats 3200000 in
theorem lown_spec (F : Nat → Prop) (v : Value) (es : List (Int × Delta)) (w : World) (h : Entries F w v es) (hsm : ∀ e ∈ es, e.2.1.length ≤ 1000000 ∧ e.2.2.length ≤ 1000000) (hn9 : es.length ≤ 1000000) :
    Meets Try.prog 17 #[v] w (fun r w' => EW w.heap.size w' r es ∧ Keep Non w w') := by
  obtain ⟨A, c, rfl, hc, hn, hb, he⟩ := h
  refine Meets.enter Try.func17 Try.ntmps17 rfl rfl ?_
  (repeat first|refine .seq ?_|refine .region ?_|refine .block ?_|refine .skip ?_|refine .ret ?_|refine .exit ?_|refine .yes rfl ?_|refine .no rfl ?_|refine .nil ?_|refine .go ?_|refine .thenExit ?_|refine .thenRet ?_|refine .inExit ?_|refine .outExit rfl ?_|refine .inNormal ?_|refine .inRet ?_|refine .off rfl rfl ?_|refine .offU rfl rfl rfl ?_|(apply W.y rfl rfl;first|exact .move rfl|exact .assign rfl|exact .fieldC rfl|exact .loadW rfl (by (first|apply Ld.oneC|apply Ld.two|apply Ld.three|apply Ld.four|apply Ld.five);repeat(first|assumption|exact Row.cell (by assumption) (by first|rfl|assumption)))|exact .nilCheck rfl|exact .lenC rfl|exact .lenStrC rfl|exact .extract rfl rfl|exact .not rfl|exact .pickT rfl rfl|exact .pickF rfl rfl|exact .buildC rfl rfl|exact .indexC _ rfl rfl rfl (by omega)|exact .indexC 0 rfl rfl rfl (by omega)|exact .indexC 1 rfl rfl rfl (by omega)|exact .indexC 2 rfl rfl rfl (by omega)|exact .indexArrC _ rfl rfl rfl (by omega)|exact .indexArrC 0 rfl rfl rfl (by omega)|exact .indexArrC 1 rfl rfl rfl (by omega)|exact .indexArrC 2 rfl rfl rfl (by omega)|exact .add _ rfl rfl (wrap_i64 (by omega))|exact .sub _ rfl rfl (wrap_i64 (by omega))|exact .rem _ rfl rfl (by decide) (Int.tmod_eq_emod_of_nonneg (by omega))|exact .cmpT rfl rfl rfl (by unfold cmpP;omega)|exact .cmpF rfl rfl rfl (by unfold cmpP;omega)|fail)|fail)
  refine C.loop (fun m L w' => ∃ (i : Nat) (vo : Value) (cs : List Value) (lo hi : Nat → Nat), L = [(3, vo), (6, .slice A es.length c), (7, .int .i64 es.length), (8, .int .i64 i)] ∧ m = es.length - i ∧ i ≤ es.length ∧ w'.ownsRow w.heap.size 39 3 vo i cs ∧ Keep Non w w' ∧ OE w.heap.size w' vo cs lo hi es i) es.length _
    ⟨0, _, [], fun _ => 0, fun _ => 0, rfl, rfl, Nat.zero_le _, ⟨rfl, .inl ⟨rfl, rfl⟩⟩, Keep.refl _ _, fun j x hj => absurd hj (Nat.not_lt_zero _)⟩ ⟨rfl, rfl, rfl, rfl, trivial⟩ ?_
  rintro m L w1 ⟨i, vo, cs, lo, hi, rfl, rfl, hi', hown, k1, hoe⟩
  by_cases hlt : i < es.length
  · have hei := List.getElem?_eq_getElem hlt
    obtain ⟨b, o, cs1, rfl, hFb, hl1, hc1, va, vd, rfl, hd⟩ := he i _ hei
    have hmem := hsm es[i] (List.getElem_mem hlt)
    have hl4 : cs.length = i * 3 := by have := hown.1; omega
    have hlt4 := hown.lt
    have s0 := k1.size
    generalize hee : es[i] = e at *
    have q0 : w1.cell? ⟨b, o + i * 3, none⟩ = some (.int .i64 e.1) := k1.cell (hc1 0 _ rfl) (non_not _)
    have q1 : w1.cell? ⟨b, o + i * 3 + 1, none⟩ = some va := k1.cell (hc1 1 _ rfl) (non_not _)
    have q2 : w1.cell? ⟨b, o + i * 3 + 2, none⟩ = some vd := k1.cell (hc1 2 _ rfl) (non_not _)
    have hd1 := hd.keep k1 (fun _ _ => non_not _)
    obtain ⟨Aa, ca, e1, _⟩ := id hd1.1
    obtain ⟨Ad, cd, e2, _⟩ := id hd1.2
    subst e1; subst e2
    (repeat first|refine .seq ?_|refine .region ?_|refine .block ?_|refine .skip ?_|refine .ret ?_|refine .exit ?_|refine .yes rfl ?_|refine .no rfl ?_|refine .nil ?_|refine .go ?_|refine .thenExit ?_|refine .thenRet ?_|refine .inExit ?_|refine .outExit rfl ?_|refine .inNormal ?_|refine .inRet ?_|refine .off rfl rfl ?_|refine .offU rfl rfl rfl ?_|(apply W.y rfl rfl;first|exact .move rfl|exact .assign rfl|exact .fieldC rfl|exact .loadW rfl (by (first|apply Ld.oneC|apply Ld.two|apply Ld.three|apply Ld.four|apply Ld.five);repeat(first|assumption|exact Row.cell (by assumption) (by first|rfl|assumption)))|exact .nilCheck rfl|exact .lenC rfl|exact .lenStrC rfl|exact .extract rfl rfl|exact .not rfl|exact .pickT rfl rfl|exact .pickF rfl rfl|exact .buildC rfl rfl|exact .indexC _ rfl rfl rfl (by omega)|exact .indexC 0 rfl rfl rfl (by omega)|exact .indexC 1 rfl rfl rfl (by omega)|exact .indexC 2 rfl rfl rfl (by omega)|exact .indexArrC _ rfl rfl rfl (by omega)|exact .indexArrC 0 rfl rfl rfl (by omega)|exact .indexArrC 1 rfl rfl rfl (by omega)|exact .indexArrC 2 rfl rfl rfl (by omega)|exact .add _ rfl rfl (wrap_i64 (by omega))|exact .sub _ rfl rfl (wrap_i64 (by omega))|exact .rem _ rfl rfl (by decide) (Int.tmod_eq_emod_of_nonneg (by omega))|exact .cmpT rfl rfl rfl (by unfold cmpP;omega)|exact .cmpF rfl rfl rfl (by unfold cmpP;omega)|fail)|fail)
    refine W.st rfl rfl St.allocC (fun v2 w2 h2 => ?_)
    obtain ⟨b5, rfl, hN2⟩ := h2
    have a2 := hN2.at_
    have s2 := hN2.size
    refine W.st0 rfl (St.storeC rfl rfl rfl hN2.row (by simp [Value.cells]) (one3 rfl rfl rfl)) (fun v3 w3 h3 => ?_)
    have r3 : Row w3 b5 39 [.int .i64 e.1, .slice Aa e.2.1.length ca, .slice Ad e.2.2.length cd] := h3.row
    have k13 : Keep Non w1 w3 := hN2.keep.put h3 (by omega)
    have s3 := h3.size
    have p0 := r3.cell (j := 0) rfl
    have p1 := r3.cell (j := 1) rfl
    have p2 := r3.cell (j := 2) rfl
    have hd3 := hd1.keep k13 (fun _ _ => non_not _)
    have hoe3 := hoe.keep k13
    have hown3 := own_keep k13 hown (fun _ _ => non_not _)
    clear hd hd1 he hoe hN2 h3
    (repeat first|refine .seq ?_|refine .region ?_|refine .block ?_|refine .skip ?_|refine .ret ?_|refine .exit ?_|refine .yes rfl ?_|refine .no rfl ?_|refine .nil ?_|refine .go ?_|refine .thenExit ?_|refine .thenRet ?_|refine .inExit ?_|refine .outExit rfl ?_|refine .inNormal ?_|refine .inRet ?_|refine .off rfl rfl ?_|refine .offU rfl rfl rfl ?_|(apply W.y rfl rfl;first|exact .move rfl|exact .assign rfl|exact .fieldC rfl|exact .loadW rfl (by (first|apply Ld.oneC|apply Ld.two|apply Ld.three|apply Ld.four|apply Ld.five);repeat(first|assumption|exact Row.cell (by assumption) (by first|rfl|assumption)))|exact .nilCheck rfl|exact .lenC rfl|exact .lenStrC rfl|exact .extract rfl rfl|exact .not rfl|exact .pickT rfl rfl|exact .pickF rfl rfl|exact .buildC rfl rfl|exact .indexC _ rfl rfl rfl (by omega)|exact .indexC 0 rfl rfl rfl (by omega)|exact .indexC 1 rfl rfl rfl (by omega)|exact .indexC 2 rfl rfl rfl (by omega)|exact .indexArrC _ rfl rfl rfl (by omega)|exact .indexArrC 0 rfl rfl rfl (by omega)|exact .indexArrC 1 rfl rfl rfl (by omega)|exact .indexArrC 2 rfl rfl rfl (by omega)|exact .add _ rfl rfl (wrap_i64 (by omega))|exact .sub _ rfl rfl (wrap_i64 (by omega))|exact .rem _ rfl rfl (by decide) (Int.tmod_eq_emod_of_nonneg (by omega))|exact .cmpT rfl rfl rfl (by unfold cmpP;omega)|exact .cmpF rfl rfl rfl (by unfold cmpP;omega)|fail)|fail)
    refine C.draw 16 (fun wq => Keep Non w3 wq) [14] mixed rfl (fun w4 kw4 ew4 => ?_)
    ((refine .take 0 rfl (by kernel_rfl) rfl rfl (.move rfl) ?_); (refine .take 1 rfl (by kernel_rfl) rfl rfl (.fieldC rfl) ?_); (refine .read 2 rfl (by kernel_rfl) rfl rfl (by assumption) (.load rfl (fun w hw => (by (first|apply Ld.oneC|apply Ld.two|apply Ld.three|apply Ld.four|apply Ld.five);repeat(apply Keep.cell hw;(first|assumption|exact Row.cell (by assumption) (by first|rfl|assumption));first|exact non_not _|assumption|(intro e;omega)|(simp;omega))))) ?_); (refine .take 3 rfl (by kernel_rfl) rfl rfl (.fieldC rfl) ?_); (refine .take 4 rfl (by kernel_rfl) rfl rfl (.fieldC rfl) ?_); (refine .read 5 rfl (by kernel_rfl) rfl rfl (by assumption) (.load rfl (fun w hw => (by (first|apply Ld.oneC|apply Ld.two|apply Ld.three|apply Ld.four|apply Ld.five);repeat(apply Keep.cell hw;(first|assumption|exact Row.cell (by assumption) (by first|rfl|assumption));first|exact non_not _|assumption|(intro e;omega)|(simp;omega))))) ?_); (refine .take 7 rfl (by kernel_rfl) rfl rfl (.fieldC rfl) ?_); (refine .take 8 rfl (by kernel_rfl) rfl rfl (.fieldC rfl) ?_); (refine .read 9 rfl (by kernel_rfl) rfl rfl (by assumption) (.load rfl (fun w hw => (by (first|apply Ld.oneC|apply Ld.two|apply Ld.three|apply Ld.four|apply Ld.five);repeat(apply Keep.cell hw;(first|assumption|exact Row.cell (by assumption) (by first|rfl|assumption));first|exact non_not _|assumption|(intro e;omega)|(simp;omega))))) ?_))
    refine D.one 6 rfl (by kernel_rfl) rfl rfl (St.callC rfl (ownL_spec F _ e.2.1 w4 (hd3.1.keep kw4 (fun _ _ => non_not _)) hmem.1)) (fun v5 w5 h5 => ⟨fun _ hS => hS.then h5.2, ?_⟩)
    obtain ⟨h5, k5⟩ := h5
    skip
    refine D.one 10 rfl (by kernel_rfl) rfl rfl (St.callC rfl (ownL_spec F _ e.2.2 w5 ((hd3.2.keep kw4 (fun _ _ => non_not _)).keep k5 (fun _ _ => non_not _)) hmem.2)) (fun v6 w6 h6 => ⟨fun _ hS => hS.then h6.2, ?_⟩)
    obtain ⟨h6, k6⟩ := h6
    have h56 := h5.keep k6 (fun _ _ _ => non_not _)
    obtain ⟨A5, c5, e5, _⟩ := id h56.intss
    obtain ⟨A6, c6, e6, _⟩ := id h6.intss
    subst e5; subst e6
    have s4 := kw4.size
    have s5 := k5.size
    have s6 := k6.size
    ((refine .take 11 rfl (by kernel_rfl) rfl rfl (.buildC rfl rfl) ?_); (refine .take 12 rfl (by kernel_rfl) rfl rfl (.buildC rfl rfl) ?_))
    refine D.one 13 rfl (by kernel_rfl) rfl rfl (St.lit (vs := [.agg #[_, _, _]]) rfl rfl (by omega) (fun v hv => by simp only [List.mem_singleton] at hv; subst hv; rfl)) (fun v7 w7 h7 => ⟨fun _ hS => hS.then (by obtain ⟨_, _, hN⟩ := h7; exact hN.keep), ?_⟩)
    obtain ⟨b7, rfl, hN7⟩ := h7
    have s7 := hN7.size
    have k37 : Keep Non w3 w7 := ((kw4.then k5).then k6).then hN7.keep
    have own7 := own_keep k37 hown3 (fun _ _ => non_not _)
    have hoe7 := hoe3.keep k37
    refine D.one 14 rfl (by kernel_rfl) rfl rfl (St.appendC w.heap.size [.int .i64 e.1, .slice A5 e.2.1.length c5, .slice A6 e.2.2.length c6] rfl rfl own7 (hN7.row.cells 0 _ rfl) rfl (one3 rfl rfl rfl) (by omega) (by omega)) (fun v8 w8 h8 => ⟨fun h => absurd h (by decide), ?_⟩)
    obtain ⟨own8, k8, d8⟩ := h8
    have s8 := k8.size
    ((refine .take 15 rfl (by kernel_rfl) rfl rfl (.assign rfl) ?_))
    refine D.fin (by kernel_rfl) ?_
    (repeat first|refine .seq ?_|refine .region ?_|refine .block ?_|refine .skip ?_|refine .ret ?_|refine .exit ?_|refine .yes rfl ?_|refine .no rfl ?_|refine .nil ?_|refine .go ?_|refine .thenExit ?_|refine .thenRet ?_|refine .inExit ?_|refine .outExit rfl ?_|refine .inNormal ?_|refine .inRet ?_|refine .off rfl rfl ?_|refine .offU rfl rfl rfl ?_|(apply W.y rfl rfl;first|exact .move rfl|exact .assign rfl|exact .fieldC rfl|exact .loadW rfl (by (first|apply Ld.oneC|apply Ld.two|apply Ld.three|apply Ld.four|apply Ld.five);repeat(first|assumption|exact Row.cell (by assumption) (by first|rfl|assumption)))|exact .nilCheck rfl|exact .lenC rfl|exact .lenStrC rfl|exact .extract rfl rfl|exact .not rfl|exact .pickT rfl rfl|exact .pickF rfl rfl|exact .buildC rfl rfl|exact .indexC _ rfl rfl rfl (by omega)|exact .indexC 0 rfl rfl rfl (by omega)|exact .indexC 1 rfl rfl rfl (by omega)|exact .indexC 2 rfl rfl rfl (by omega)|exact .indexArrC _ rfl rfl rfl (by omega)|exact .indexArrC 0 rfl rfl rfl (by omega)|exact .indexArrC 1 rfl rfl rfl (by omega)|exact .indexArrC 2 rfl rfl rfl (by omega)|exact .add _ rfl rfl (wrap_i64 (by omega))|exact .sub _ rfl rfl (wrap_i64 (by omega))|exact .rem _ rfl rfl (by decide) (Int.tmod_eq_emod_of_nonneg (by omega))|exact .cmpT rfl rfl rfl (by unfold cmpP;omega)|exact .cmpF rfl rfl rfl (by unfold cmpP;omega)|fail)|fail)
    have hblock : ∀ k, v8.ownBlock = some k → vo.ownBlock = some k ∨ k = w7.heap.size := fun k hk => by
      rcases d8 with d8 | d8
      · rw [d8] at hk; exact .inl hk
      · rw [d8] at hk; cases hk; exact .inr rfl
    refine E.again _ _ (by omega) ⟨i + 1, v8, _, (fun j => if j = i then w4.heap.size else lo j), (fun j => if j = i then w6.heap.size else hi j), rfl, rfl, by omega, own8, ((k1.then k13).then k37).far k8 (fun j hj => by have := hlt4 j hj.symm; omega), fun j x hj hx => ?_⟩ ⟨rfl, rfl, rfl, some_int (by omega), trivial⟩
    by_cases hji : j = i
    · subst hji
      have hxe : x = e := by rw [hei] at hx; simpa using hx.symm
      subst hxe
      simp only [if_true]
      refine ⟨_, _, take3_snoc hl4 rfl, DW.keep k8 (fun k a _ e => by have := hlt4 k e.symm; omega) (DW.keep hN7.keep (fun _ _ _ => non_not _) ⟨w5.heap.size, by omega, by omega, h56, h6⟩), by omega, by omega, by omega, fun j' hj' => ?_, fun k a b hk => ?_⟩
      · rw [if_neg (by omega)]
        obtain ⟨_, _, _, _, _, _, g5, _⟩ := hoe3 j' es[j'] (by omega) (List.getElem?_eq_getElem (by omega))
        omega
      · rcases hblock k hk with h | h
        · have := hlt4 k h; omega
        · omega
    · obtain ⟨xa, xd, g1, g2, g3, g4, g5, g6, g7⟩ := hoe7 j x (by omega) hx
      simp only [if_neg hji]
      refine ⟨xa, xd, by rw [take3_old hl4 (by omega)]; exact g1, g2.keep k8 (fun k a b e => g7 k a b e.symm), g3, g4, by omega, fun j' hj' => ?_, fun k a b hk => ?_⟩
      · rw [if_neg (by omega)]; exact g6 j' hj'
      · rcases hblock k hk with h | h
        · exact g7 k a b h
        · omega
  · have e : i = es.length := by omega
    subst e
    (repeat first|refine .seq ?_|refine .region ?_|refine .block ?_|refine .skip ?_|refine .ret ?_|refine .exit ?_|refine .yes rfl ?_|refine .no rfl ?_|refine .nil ?_|refine .go ?_|refine .thenExit ?_|refine .thenRet ?_|refine .inExit ?_|refine .outExit rfl ?_|refine .inNormal ?_|refine .inRet ?_|refine .off rfl rfl ?_|refine .offU rfl rfl rfl ?_|(apply W.y rfl rfl;first|exact .move rfl|exact .assign rfl|exact .fieldC rfl|exact .loadW rfl (by (first|apply Ld.oneC|apply Ld.two|apply Ld.three|apply Ld.four|apply Ld.five);repeat(first|assumption|exact Row.cell (by assumption) (by first|rfl|assumption)))|exact .nilCheck rfl|exact .lenC rfl|exact .lenStrC rfl|exact .extract rfl rfl|exact .not rfl|exact .pickT rfl rfl|exact .pickF rfl rfl|exact .buildC rfl rfl|exact .indexC _ rfl rfl rfl (by omega)|exact .indexC 0 rfl rfl rfl (by omega)|exact .indexC 1 rfl rfl rfl (by omega)|exact .indexC 2 rfl rfl rfl (by omega)|exact .indexArrC _ rfl rfl rfl (by omega)|exact .indexArrC 0 rfl rfl rfl (by omega)|exact .indexArrC 1 rfl rfl rfl (by omega)|exact .indexArrC 2 rfl rfl rfl (by omega)|exact .add _ rfl rfl (wrap_i64 (by omega))|exact .sub _ rfl rfl (wrap_i64 (by omega))|exact .rem _ rfl rfl (by decide) (Int.tmod_eq_emod_of_nonneg (by omega))|exact .cmpT rfl rfl rfl (by unfold cmpP;omega)|exact .cmpF rfl rfl rfl (by unfold cmpP;omega)|fail)|fail)
    refine E.ret1 rfl rfl ⟨?_, k1⟩
    have hlt4 := hown.lt
    rcases id hown.2 with ⟨e1, e2⟩ | ⟨g, cap, cur, rfl, hg, hh, hcap, hm, hs, ht⟩
    · subst e1
      refine ⟨none, 0, fun _ => False, lo, hi, by rw [e2], by omega, fun _ => rfl, fun k hk => hk.elim, fun j e hj => ?_⟩
      have := (List.getElem?_eq_some_iff.1 hj).1
      omega
    · refine ⟨_, cap, (fun k => k = g), lo, hi, rfl, hcap, (fun h => by cases h), (fun k hk => by have hk : k = g := hk; rw [hk]; exact hlt4 g rfl), fun j x hj => ?_⟩
      have hjl := (List.getElem?_eq_some_iff.1 hj).1
      obtain ⟨xa, xd, g1, g2, g3, g4, g5, g6, g7⟩ := hoe j x hjl hj
      have hcell : ∀ t u, ([.int .i64 x.1, xa, xd] : List Value)[t]? = some u → w1.cell? ⟨g, 0 + j * 3 + t, none⟩ = some u := fun t u ht => by
        have htl : t < 3 := by have := (List.getElem?_eq_some_iff.1 ht).1; simpa using this
        have h1 : cs[j * 3 + t]? = some u := by
          rw [← g1, List.getElem?_take_of_lt htl, List.getElem?_drop] at ht
          exact ht
        have h2 := hown.cells (g := g) rfl (j * 3 + t) u h1
        rw [add_addr] at h2
        rw [Nat.add_assoc]; exact h2
      exact ⟨⟨g, 0, xa, xd, rfl, rfl, hcell 0 _ rfl, hcell 1 _ rfl, hcell 2 _ rfl, g2⟩, g3, g4, g5, g6, fun k a b e => g7 k a b (by have e : k = g := e; rw [e]; rfl)⟩
end Go.Proofs.Ytkehmehodgcdfaa
