/- Poll once more: what is answered is entries of one's own. -/
import Derived.Test.YtkehmehodgcdfaaGi
namespace Go.Proofs.Ytkehmehodgcdfaa
open Vb Go.RowKit

theorem ew_of_own {base : Nat} {w : World} {vo : Value} {cs : List Value} {lo hi : Nat → Nat} {es : List (Int × Delta)} {i : Nat} (hown : w.ownsRow base 39 3 vo i cs) (hoe : OE base w vo cs lo hi es i) (hi' : es.length = i) : EW base w vo es := by
  subst hi'
  have hlt4 := hown.lt
  rcases id hown.2 with ⟨e1, e2⟩ | ⟨g, cap, cur, rfl, hg, hh, hcap, hm, hs, ht⟩
  · subst e1
    refine ⟨none, 0, fun _ => False, lo, hi, by rw [e2], by omega, fun _ => rfl, fun k hk => hk.elim, fun j e hj => ?_⟩
    have := (List.getElem?_eq_some_iff.1 hj).1
    omega
  · refine ⟨_, cap, (fun k => k = g), lo, hi, rfl, hcap, (fun h => by cases h), (fun k hk => by have hk : k = g := hk; rw [hk]; exact hlt4 g rfl), fun j x hj => ?_⟩
    have hjl := (List.getElem?_eq_some_iff.1 hj).1
    obtain ⟨xa, xd, g1, g2, g3, g4, g5, g6, g7⟩ := hoe j x hjl hj
    have hcell : ∀ t u, ([.int .i64 x.1, xa, xd] : List Value)[t]? = some u → w.cell? ⟨g, 0 + j * 3 + t, none⟩ = some u := fun t u ht => by
      have htl : t < 3 := by have := (List.getElem?_eq_some_iff.1 ht).1; simpa using this
      have h1 : cs[j * 3 + t]? = some u := by
        rw [← g1, List.getElem?_take_of_lt htl, List.getElem?_drop] at ht
        exact ht
      have h2 := hown.cells (g := g) rfl (j * 3 + t) u h1
      rw [add_addr] at h2
      rw [Nat.add_assoc]; exact h2
    exact ⟨⟨g, 0, xa, xd, rfl, rfl, hcell 0 _ rfl, hcell 1 _ rfl, hcell 2 _ rfl, g2⟩, g3, g4, g5, g6, fun k a b e => g7 k a b (by have e : k = g := e; rw [e]; rfl)⟩
theorem clipEW_spec (base : Nat) (v : Value) (es : List (Int × Delta)) (w : World) (h : EW base w v es) (hn : es.length ≤ 1000000) :
    Meets Try.prog 28 #[v] w (fun r w' => EW base w r es ∧ w' = w) := by
  obtain ⟨A, c, br, lo, hi, rfl, hc, h3, h4, h5⟩ := h
  refine Meets.enter Try.func28 Try.ntmps28 rfl rfl ?_
  (repeat first|refine .seq ?_|refine .region ?_|refine .block ?_|refine .skip ?_|refine .ret ?_|refine .exit ?_|refine .yes rfl ?_|refine .no rfl ?_|refine .nil ?_|refine .go ?_|refine .thenExit ?_|refine .thenRet ?_|refine .inExit ?_|refine .outExit rfl ?_|refine .inNormal ?_|refine .inRet ?_|refine .off rfl rfl ?_|refine .offU rfl rfl rfl ?_|(apply W.y rfl rfl;first|exact .move rfl|exact .assign rfl|exact .fieldC rfl|exact .loadW rfl (by (first|apply Ld.oneC|apply Ld.two|apply Ld.three|apply Ld.four|apply Ld.five);repeat(first|assumption|exact Row.cell (by assumption) (by first|rfl|assumption)))|exact .nilCheck rfl|exact .lenC rfl|exact .lenStrC rfl|exact .extract rfl rfl|exact .not rfl|exact .pickT rfl rfl|exact .pickF rfl rfl|exact .buildC rfl rfl|exact .indexC _ rfl rfl rfl (by omega)|exact .indexC 0 rfl rfl rfl (by omega)|exact .indexC 1 rfl rfl rfl (by omega)|exact .indexC 2 rfl rfl rfl (by omega)|exact .indexArrC _ rfl rfl rfl (by omega)|exact .indexArrC 0 rfl rfl rfl (by omega)|exact .indexArrC 1 rfl rfl rfl (by omega)|exact .indexArrC 2 rfl rfl rfl (by omega)|exact .add _ rfl rfl (wrap_i64 (by omega))|exact .sub _ rfl rfl (wrap_i64 (by omega))|exact .rem _ rfl rfl (by decide) (Int.tmod_eq_emod_of_nonneg (by omega))|exact .cmpT rfl rfl rfl (by unfold cmpP;omega)|exact .cmpF rfl rfl rfl (by unfold cmpP;omega)|fail)|fail)
  refine W.y rfl rfl (Y.cut3 es.length es.length rfl rfl rfl rfl rfl (Nat.le_refl _) hc) ?_
  (repeat first|refine .seq ?_|refine .region ?_|refine .block ?_|refine .skip ?_|refine .ret ?_|refine .exit ?_|refine .yes rfl ?_|refine .no rfl ?_|refine .nil ?_|refine .go ?_|refine .thenExit ?_|refine .thenRet ?_|refine .inExit ?_|refine .outExit rfl ?_|refine .inNormal ?_|refine .inRet ?_|refine .off rfl rfl ?_|refine .offU rfl rfl rfl ?_|(apply W.y rfl rfl;first|exact .move rfl|exact .assign rfl|exact .fieldC rfl|exact .loadW rfl (by (first|apply Ld.oneC|apply Ld.two|apply Ld.three|apply Ld.four|apply Ld.five);repeat(first|assumption|exact Row.cell (by assumption) (by first|rfl|assumption)))|exact .nilCheck rfl|exact .lenC rfl|exact .lenStrC rfl|exact .extract rfl rfl|exact .not rfl|exact .pickT rfl rfl|exact .pickF rfl rfl|exact .buildC rfl rfl|exact .indexC _ rfl rfl rfl (by omega)|exact .indexC 0 rfl rfl rfl (by omega)|exact .indexC 1 rfl rfl rfl (by omega)|exact .indexC 2 rfl rfl rfl (by omega)|exact .indexArrC _ rfl rfl rfl (by omega)|exact .indexArrC 0 rfl rfl rfl (by omega)|exact .indexArrC 1 rfl rfl rfl (by omega)|exact .indexArrC 2 rfl rfl rfl (by omega)|exact .add _ rfl rfl (wrap_i64 (by omega))|exact .sub _ rfl rfl (wrap_i64 (by omega))|exact .rem _ rfl rfl (by decide) (Int.tmod_eq_emod_of_nonneg (by omega))|exact .cmpT rfl rfl rfl (by unfold cmpP;omega)|exact .cmpF rfl rfl rfl (by unfold cmpP;omega)|fail)|fail)
  exact E.ret1 rfl rfl ⟨⟨A, es.length, br, lo, hi, rfl, Nat.le_refl _, fun e => by have := h3 e; omega, h4, h5⟩, rfl⟩
set_option maxHeartbeats 3200000 in
theorem pollW_yes (F : Nat → Prop) (b last : Nat) (ds : List Delta) (after most : Int) (w : World) (h : FeedAt F w b last ds) (hl : last ≤ 1099511627776) (hc : pollCode last ds.length after most = 0) :
    Meets Try.prog 12 #[.pointer (some ⟨b, 0, none⟩), .int .i64 after, .int .i64 most] w (fun v w' => ∃ vl, v = .tuple #[vl, .int .i64 0] ∧ EW w.heap.size w' vl (pollList last ds after most) ∧ Keep Non w w') := by
  obtain ⟨cs, hr, hn, hcl, hck, h12, hle, hb, hs⟩ := id h
  have hpl := pollList_length last ds after most hc hle
  have hpg := pollList_get last ds after most hc hle
  have h0 : ¬ after < 0 := by unfold pollCode at hc; intro h0; rw [if_pos (.inl h0)] at hc; omega
  have h1 : ¬ (last : Int) < after := by unfold pollCode at hc; intro h1; rw [if_pos (.inr h1)] at hc; omega
  have h2 : ¬ most < 1 := by unfold pollCode at hc; intro h2; rw [if_neg (by omega), if_pos h2] at hc; omega
  have h3 : ¬ after < (last : Int) - ds.length := by unfold pollCode at hc; intro h3; rw [if_neg (by omega), if_neg h2, if_pos h3] at hc; omega
  refine Meets.enter Try.func12 Try.ntmps12 rfl rfl ?_
  (repeat first|refine .seq ?_|refine .region ?_|refine .block ?_|refine .skip ?_|refine .ret ?_|refine .exit ?_|refine .yes rfl ?_|refine .no rfl ?_|refine .nil ?_|refine .go ?_|refine .thenExit ?_|refine .thenRet ?_|refine .inExit ?_|refine .outExit rfl ?_|refine .inNormal ?_|refine .inRet ?_|refine .off rfl rfl ?_|refine .offU rfl rfl rfl ?_|(apply W.y rfl rfl;first|exact .move rfl|exact .assign rfl|exact .fieldC rfl|exact .loadW rfl (by (first|apply Ld.oneC|apply Ld.two|apply Ld.three|apply Ld.four|apply Ld.five);repeat(first|assumption|exact Row.cell (by assumption) (by first|rfl|assumption)))|exact .nilCheck rfl|exact .lenC rfl|exact .lenStrC rfl|exact .extract rfl rfl|exact .not rfl|exact .pickT rfl rfl|exact .pickF rfl rfl|exact .buildC rfl rfl|exact .indexC _ rfl rfl rfl (by omega)|exact .indexC 0 rfl rfl rfl (by omega)|exact .indexC 1 rfl rfl rfl (by omega)|exact .indexC 2 rfl rfl rfl (by omega)|exact .indexArrC _ rfl rfl rfl (by omega)|exact .indexArrC 0 rfl rfl rfl (by omega)|exact .indexArrC 1 rfl rfl rfl (by omega)|exact .indexArrC 2 rfl rfl rfl (by omega)|exact .add _ rfl rfl (wrap_i64 (by omega))|exact .sub _ rfl rfl (wrap_i64 (by omega))|exact .rem _ rfl rfl (by decide) (Int.tmod_eq_emod_of_nonneg (by omega))|exact .cmpT rfl rfl rfl (by unfold cmpP;omega)|exact .cmpF rfl rfl rfl (by unfold cmpP;omega)|fail)|fail)
  refine W.st rfl rfl (St.callC rfl (first_spec F b last ds w h hl)) (fun v1 w1 h4 => ?_)
  obtain ⟨rfl, k1⟩ := h4
  (repeat first|refine .seq ?_|refine .region ?_|refine .block ?_|refine .skip ?_|refine .ret ?_|refine .exit ?_|refine .yes rfl ?_|refine .no rfl ?_|refine .nil ?_|refine .go ?_|refine .thenExit ?_|refine .thenRet ?_|refine .inExit ?_|refine .outExit rfl ?_|refine .inNormal ?_|refine .inRet ?_|refine .off rfl rfl ?_|refine .offU rfl rfl rfl ?_|(apply W.y rfl rfl;first|exact .move rfl|exact .assign rfl|exact .fieldC rfl|exact .loadW rfl (by (first|apply Ld.oneC|apply Ld.two|apply Ld.three|apply Ld.four|apply Ld.five);repeat(first|assumption|exact Row.cell (by assumption) (by first|rfl|assumption)))|exact .nilCheck rfl|exact .lenC rfl|exact .lenStrC rfl|exact .extract rfl rfl|exact .not rfl|exact .pickT rfl rfl|exact .pickF rfl rfl|exact .buildC rfl rfl|exact .indexC _ rfl rfl rfl (by omega)|exact .indexC 0 rfl rfl rfl (by omega)|exact .indexC 1 rfl rfl rfl (by omega)|exact .indexC 2 rfl rfl rfl (by omega)|exact .indexArrC _ rfl rfl rfl (by omega)|exact .indexArrC 0 rfl rfl rfl (by omega)|exact .indexArrC 1 rfl rfl rfl (by omega)|exact .indexArrC 2 rfl rfl rfl (by omega)|exact .add _ rfl rfl (wrap_i64 (by omega))|exact .sub _ rfl rfl (wrap_i64 (by omega))|exact .rem _ rfl rfl (by decide) (Int.tmod_eq_emod_of_nonneg (by omega))|exact .cmpT rfl rfl rfl (by unfold cmpP;omega)|exact .cmpF rfl rfl rfl (by unfold cmpP;omega)|fail)|fail)
  refine C.loop (fun k L w' => ∃ (i : Nat) (vo : Value) (cs : List Value) (lo hi : Nat → Nat), L = [(0, .pointer (some ⟨b, 0, none⟩)), (2, .int .i64 most), (8, vo), (9, .int .i64 (after + 1 + i))] ∧ k = (pollList last ds after most).length - i ∧ i ≤ (pollList last ds after most).length ∧ w'.ownsRow w.heap.size 39 3 vo i cs ∧ Keep Non w w' ∧ OE w.heap.size w' vo cs lo hi (pollList last ds after most) i) (pollList last ds after most).length _ ⟨0, _, [], fun _ => 0, fun _ => 0, rfl, rfl, Nat.zero_le _, World.ownsRow_nil _ _ _ _, k1, fun j x hj => absurd hj (Nat.not_lt_zero _)⟩ ⟨rfl, rfl, rfl, some_int (by omega), trivial⟩ ?_
  rintro k L w' ⟨i, vo, es, lo, hi, rfl, rfl, hi', hown, hk, hoe⟩
  have hr' := hr.keep hk (non_not _)
  obtain ⟨A, c, rfl⟩ : ∃ A c, vo = .slice A i c := by
    rcases hown.2 with ⟨rfl, rfl⟩ | ⟨g, cap, cur, rfl, _⟩ <;> exact ⟨_, _, rfl⟩
  by_cases hlt : i < (pollList last ds after most).length
  · obtain ⟨_, d, hd, hx⟩ := (hpg i _).1 (List.getElem?_eq_getElem hlt)
    have hei := List.getElem?_eq_getElem hlt
    obtain ⟨va, vd, g1, g2, g3⟩ := hs _ d hd
    have hdl := (List.getElem?_eq_some_iff.1 hd).1
    have hc0 : w'.cell? ⟨b, 0 + 0 + (after.toNat + 1 + i) % 12 * 2, none⟩ = some va := by
      rw [show 0 + 0 + (after.toNat + 1 + i) % 12 * 2 = 2 * ((last - ds.length + 1 + (after.toNat - (last - ds.length) + i)) % 12) by omega]
      exact hr'.cell g1
    have hc1 : w'.cell? ⟨b, 0 + 0 + (after.toNat + 1 + i) % 12 * 2 + 1, none⟩ = some vd := by
      rw [show 0 + 0 + (after.toNat + 1 + i) % 12 * 2 = 2 * ((last - ds.length + 1 + (after.toNat - (last - ds.length) + i)) % 12) by omega]
      exact hr'.cell g2
    have g3' := g3.keep hk (fun k _ => non_not k)
    (repeat first|refine .seq ?_|refine .region ?_|refine .block ?_|refine .skip ?_|refine .ret ?_|refine .exit ?_|refine .yes rfl ?_|refine .no rfl ?_|refine .nil ?_|refine .go ?_|refine .thenExit ?_|refine .thenRet ?_|refine .inExit ?_|refine .outExit rfl ?_|refine .inNormal ?_|refine .inRet ?_|refine .off rfl rfl ?_|refine .offU rfl rfl rfl ?_|(apply W.y rfl rfl;first|exact .move rfl|exact .assign rfl|exact .fieldC rfl|exact .loadW rfl (by (first|apply Ld.oneC|apply Ld.two|apply Ld.three|apply Ld.four|apply Ld.five);repeat(first|assumption|exact Row.cell (by assumption) (by first|rfl|assumption)))|exact .nilCheck rfl|exact .lenC rfl|exact .lenStrC rfl|exact .extract rfl rfl|exact .not rfl|exact .pickT rfl rfl|exact .pickF rfl rfl|exact .buildC rfl rfl|exact .indexC _ rfl rfl rfl (by omega)|exact .indexC 0 rfl rfl rfl (by omega)|exact .indexC 1 rfl rfl rfl (by omega)|exact .indexC 2 rfl rfl rfl (by omega)|exact .indexArrC _ rfl rfl rfl (by omega)|exact .indexArrC 0 rfl rfl rfl (by omega)|exact .indexArrC 1 rfl rfl rfl (by omega)|exact .indexArrC 2 rfl rfl rfl (by omega)|exact .add _ rfl rfl (wrap_i64 (by omega))|exact .sub _ rfl rfl (wrap_i64 (by omega))|exact .rem _ rfl rfl (by decide) (Int.tmod_eq_emod_of_nonneg (by omega))|exact .cmpT rfl rfl rfl (by unfold cmpP;omega)|exact .cmpF rfl rfl rfl (by unfold cmpP;omega)|fail)|fail)
    refine W.y rfl rfl (Y.indexArrC ((after.toNat + 1 + i) % 12) rfl rfl (by omega) (by omega)) ?_
    (repeat first|refine .seq ?_|refine .region ?_|refine .block ?_|refine .skip ?_|refine .ret ?_|refine .exit ?_|refine .yes rfl ?_|refine .no rfl ?_|refine .nil ?_|refine .go ?_|refine .thenExit ?_|refine .thenRet ?_|refine .inExit ?_|refine .outExit rfl ?_|refine .inNormal ?_|refine .inRet ?_|refine .off rfl rfl ?_|refine .offU rfl rfl rfl ?_|(apply W.y rfl rfl;first|exact .move rfl|exact .assign rfl|exact .fieldC rfl|exact .loadW rfl (by (first|apply Ld.oneC|apply Ld.two|apply Ld.three|apply Ld.four|apply Ld.five);repeat(first|assumption|exact Row.cell (by assumption) (by first|rfl|assumption)))|exact .nilCheck rfl|exact .lenC rfl|exact .lenStrC rfl|exact .extract rfl rfl|exact .not rfl|exact .pickT rfl rfl|exact .pickF rfl rfl|exact .buildC rfl rfl|exact .indexC _ rfl rfl rfl (by omega)|exact .indexC 0 rfl rfl rfl (by omega)|exact .indexC 1 rfl rfl rfl (by omega)|exact .indexC 2 rfl rfl rfl (by omega)|exact .indexArrC _ rfl rfl rfl (by omega)|exact .indexArrC 0 rfl rfl rfl (by omega)|exact .indexArrC 1 rfl rfl rfl (by omega)|exact .indexArrC 2 rfl rfl rfl (by omega)|exact .add _ rfl rfl (wrap_i64 (by omega))|exact .sub _ rfl rfl (wrap_i64 (by omega))|exact .rem _ rfl rfl (by decide) (Int.tmod_eq_emod_of_nonneg (by omega))|exact .cmpT rfl rfl rfl (by unfold cmpP;omega)|exact .cmpF rfl rfl rfl (by unfold cmpP;omega)|fail)|fail)
    refine W.st rfl rfl (St.callC rfl (fownW_spec F va vd d w' g3')) (fun v5 w5 h5 => ?_)
    obtain ⟨va5, vd5, rfl, h5, k5⟩ := h5
    (repeat first|refine .seq ?_|refine .region ?_|refine .block ?_|refine .skip ?_|refine .ret ?_|refine .exit ?_|refine .yes rfl ?_|refine .no rfl ?_|refine .nil ?_|refine .go ?_|refine .thenExit ?_|refine .thenRet ?_|refine .inExit ?_|refine .outExit rfl ?_|refine .inNormal ?_|refine .inRet ?_|refine .off rfl rfl ?_|refine .offU rfl rfl rfl ?_|(apply W.y rfl rfl;first|exact .move rfl|exact .assign rfl|exact .fieldC rfl|exact .loadW rfl (by (first|apply Ld.oneC|apply Ld.two|apply Ld.three|apply Ld.four|apply Ld.five);repeat(first|assumption|exact Row.cell (by assumption) (by first|rfl|assumption)))|exact .nilCheck rfl|exact .lenC rfl|exact .lenStrC rfl|exact .extract rfl rfl|exact .not rfl|exact .pickT rfl rfl|exact .pickF rfl rfl|exact .buildC rfl rfl|exact .indexC _ rfl rfl rfl (by omega)|exact .indexC 0 rfl rfl rfl (by omega)|exact .indexC 1 rfl rfl rfl (by omega)|exact .indexC 2 rfl rfl rfl (by omega)|exact .indexArrC _ rfl rfl rfl (by omega)|exact .indexArrC 0 rfl rfl rfl (by omega)|exact .indexArrC 1 rfl rfl rfl (by omega)|exact .indexArrC 2 rfl rfl rfl (by omega)|exact .add _ rfl rfl (wrap_i64 (by omega))|exact .sub _ rfl rfl (wrap_i64 (by omega))|exact .rem _ rfl rfl (by decide) (Int.tmod_eq_emod_of_nonneg (by omega))|exact .cmpT rfl rfl rfl (by unfold cmpP;omega)|exact .cmpF rfl rfl rfl (by unfold cmpP;omega)|fail)|fail)
    refine W.st rfl rfl (St.lit (vs := [.agg #[.int .i64 (after + 1 + i), va5, vd5]]) rfl rfl (by omega) (fun v hv => by simp only [List.mem_singleton] at hv; subst hv; rfl)) (fun v6 w6 h6 => ?_)
    obtain ⟨b6, rfl, hN⟩ := h6
    have hsz := hN.size
    have hat := hN.at_
    have ho6 := own_keep hN.keep (own_keep k5 hown (fun _ _ => non_not _)) (fun _ _ => non_not _)
    have hoe6 := (hoe.keep k5).keep hN.keep
    have hlt6 := hown.lt
    have hl6 := hown.1
    have s5 := k5.size
    have s0 := hk.size
    refine W.st rfl rfl (St.appendC w.heap.size [.int .i64 (after + 1 + i), va5, vd5] rfl rfl ho6 (hN.row.cells 0 _ rfl) rfl (one3 rfl (slice_one h5.deltas.1) (slice_one h5.deltas.2)) (by omega) (by omega)) (fun v7 w7 h7 => ?_)
    obtain ⟨h7, k7, h7b⟩ := h7
    have s7 := k7.size
    (repeat first|refine .seq ?_|refine .region ?_|refine .block ?_|refine .skip ?_|refine .ret ?_|refine .exit ?_|refine .yes rfl ?_|refine .no rfl ?_|refine .nil ?_|refine .go ?_|refine .thenExit ?_|refine .thenRet ?_|refine .inExit ?_|refine .outExit rfl ?_|refine .inNormal ?_|refine .inRet ?_|refine .off rfl rfl ?_|refine .offU rfl rfl rfl ?_|(apply W.y rfl rfl;first|exact .move rfl|exact .assign rfl|exact .fieldC rfl|exact .loadW rfl (by (first|apply Ld.oneC|apply Ld.two|apply Ld.three|apply Ld.four|apply Ld.five);repeat(first|assumption|exact Row.cell (by assumption) (by first|rfl|assumption)))|exact .nilCheck rfl|exact .lenC rfl|exact .lenStrC rfl|exact .extract rfl rfl|exact .not rfl|exact .pickT rfl rfl|exact .pickF rfl rfl|exact .buildC rfl rfl|exact .indexC _ rfl rfl rfl (by omega)|exact .indexC 0 rfl rfl rfl (by omega)|exact .indexC 1 rfl rfl rfl (by omega)|exact .indexC 2 rfl rfl rfl (by omega)|exact .indexArrC _ rfl rfl rfl (by omega)|exact .indexArrC 0 rfl rfl rfl (by omega)|exact .indexArrC 1 rfl rfl rfl (by omega)|exact .indexArrC 2 rfl rfl rfl (by omega)|exact .add _ rfl rfl (wrap_i64 (by omega))|exact .sub _ rfl rfl (wrap_i64 (by omega))|exact .rem _ rfl rfl (by decide) (Int.tmod_eq_emod_of_nonneg (by omega))|exact .cmpT rfl rfl rfl (by unfold cmpP;omega)|exact .cmpF rfl rfl rfl (by unfold cmpP;omega)|fail)|fail)
    have hk7 := ((hk.then k5).then hN.keep).far k7 (fun j hj => by have := hlt6 j hj.symm; omega)
    have hblock : ∀ k, v7.ownBlock = some k → (Value.slice A i c).ownBlock = some k ∨ k = w6.heap.size := fun k hk => by
      rcases h7b with d8 | d8
      · rw [d8] at hk; exact .inl hk
      · rw [d8] at hk; cases hk; exact .inr rfl
    refine E.again _ _ (by omega) ⟨i + 1, v7, _, (fun j => if j = i then w'.heap.size else lo j), (fun j => if j = i then w5.heap.size else hi j), rfl, rfl, by omega, h7, hk7, fun j x hj hx' => ?_⟩ ⟨rfl, rfl, rfl, some_int (by omega), trivial⟩
    by_cases hji : j = i
    · subst hji
      rw [hei] at hx'
      simp only [Option.some.injEq] at hx'
      rw [hx] at hx'
      subst hx'
      simp only [if_true]
      refine ⟨va5, vd5, take3_snoc hl6 rfl, DW.keep k7 (fun k a _ e => by have := hlt6 k e.symm; omega) (DW.keep hN.keep (fun _ _ _ => non_not _) h5), by omega, by omega, by omega, fun j' hj' => ?_, fun k a b hk => ?_⟩
      · rw [if_neg (by omega)]
        obtain ⟨_, _, _, _, _, _, g5, _⟩ := hoe j' _ (by omega) (List.getElem?_eq_getElem (by omega))
        omega
      · rcases hblock k hk with h | h
        · have := hlt6 k h; omega
        · omega
    · obtain ⟨xa, xd, f1, f2, f3, f4, f5, f6, f7⟩ := hoe6 j x (by omega) hx'
      simp only [if_neg hji]
      refine ⟨xa, xd, by rw [take3_old hl6 (by omega)]; exact f1, f2.keep k7 (fun k a b e => f7 k a b e.symm), f3, f4, by omega, fun j' hj' => ?_, fun k a b hk => ?_⟩
      · rw [if_neg (by omega)]; exact f6 j' hj'
      · rcases hblock k hk with h | h
        · exact f7 k a b h
        · omega
  · have hfin := ew_of_own hown hoe (by omega)
    by_cases h5 : after + 1 + (i : Int) ≤ last
    all_goals
      (repeat first|refine .seq ?_|refine .region ?_|refine .block ?_|refine .skip ?_|refine .ret ?_|refine .exit ?_|refine .yes rfl ?_|refine .no rfl ?_|refine .nil ?_|refine .go ?_|refine .thenExit ?_|refine .thenRet ?_|refine .inExit ?_|refine .outExit rfl ?_|refine .inNormal ?_|refine .inRet ?_|refine .off rfl rfl ?_|refine .offU rfl rfl rfl ?_|(apply W.y rfl rfl;first|exact .move rfl|exact .assign rfl|exact .fieldC rfl|exact .loadW rfl (by (first|apply Ld.oneC|apply Ld.two|apply Ld.three|apply Ld.four|apply Ld.five);repeat(first|assumption|exact Row.cell (by assumption) (by first|rfl|assumption)))|exact .nilCheck rfl|exact .lenC rfl|exact .lenStrC rfl|exact .extract rfl rfl|exact .not rfl|exact .pickT rfl rfl|exact .pickF rfl rfl|exact .buildC rfl rfl|exact .indexC _ rfl rfl rfl (by omega)|exact .indexC 0 rfl rfl rfl (by omega)|exact .indexC 1 rfl rfl rfl (by omega)|exact .indexC 2 rfl rfl rfl (by omega)|exact .indexArrC _ rfl rfl rfl (by omega)|exact .indexArrC 0 rfl rfl rfl (by omega)|exact .indexArrC 1 rfl rfl rfl (by omega)|exact .indexArrC 2 rfl rfl rfl (by omega)|exact .add _ rfl rfl (wrap_i64 (by omega))|exact .sub _ rfl rfl (wrap_i64 (by omega))|exact .rem _ rfl rfl (by decide) (Int.tmod_eq_emod_of_nonneg (by omega))|exact .cmpT rfl rfl rfl (by unfold cmpP;omega)|exact .cmpF rfl rfl rfl (by unfold cmpP;omega)|fail)|fail)
      refine W.st rfl rfl (St.callC rfl (clipEW_spec _ _ _ w' hfin (by omega))) (fun v8 w8 h8 => ?_)
      obtain ⟨h8, rfl⟩ := h8
      (repeat first|refine .seq ?_|refine .region ?_|refine .block ?_|refine .skip ?_|refine .ret ?_|refine .exit ?_|refine .yes rfl ?_|refine .no rfl ?_|refine .nil ?_|refine .go ?_|refine .thenExit ?_|refine .thenRet ?_|refine .inExit ?_|refine .outExit rfl ?_|refine .inNormal ?_|refine .inRet ?_|refine .off rfl rfl ?_|refine .offU rfl rfl rfl ?_|(apply W.y rfl rfl;first|exact .move rfl|exact .assign rfl|exact .fieldC rfl|exact .loadW rfl (by (first|apply Ld.oneC|apply Ld.two|apply Ld.three|apply Ld.four|apply Ld.five);repeat(first|assumption|exact Row.cell (by assumption) (by first|rfl|assumption)))|exact .nilCheck rfl|exact .lenC rfl|exact .lenStrC rfl|exact .extract rfl rfl|exact .not rfl|exact .pickT rfl rfl|exact .pickF rfl rfl|exact .buildC rfl rfl|exact .indexC _ rfl rfl rfl (by omega)|exact .indexC 0 rfl rfl rfl (by omega)|exact .indexC 1 rfl rfl rfl (by omega)|exact .indexC 2 rfl rfl rfl (by omega)|exact .indexArrC _ rfl rfl rfl (by omega)|exact .indexArrC 0 rfl rfl rfl (by omega)|exact .indexArrC 1 rfl rfl rfl (by omega)|exact .indexArrC 2 rfl rfl rfl (by omega)|exact .add _ rfl rfl (wrap_i64 (by omega))|exact .sub _ rfl rfl (wrap_i64 (by omega))|exact .rem _ rfl rfl (by decide) (Int.tmod_eq_emod_of_nonneg (by omega))|exact .cmpT rfl rfl rfl (by unfold cmpP;omega)|exact .cmpF rfl rfl rfl (by unfold cmpP;omega)|fail)|fail)
      exact E.ret2 rfl rfl rfl ⟨_, rfl, h8, hk⟩
end Go.Proofs.Ytkehmehodgcdfaa
