/- Contracts of the feed, second part: Poll that answers, Kept, New. -/
import Derived.Test.YtkehmehodgcdfaaFb
namespace Go.Proofs.Ytkehmehodgcdfaa
open Vb Go.RowKit

theorem take3_snoc {cs ns : List Value} {i : Nat} (h : cs.length = i * 3) (hn : ns.length = 3) : (((cs ++ ns).drop (i * 3)).take 3) = ns := by
  rw [← h, List.drop_left, ← hn, List.take_length]
theorem take3_old {cs ns : List Value} {i j : Nat} (h : cs.length = i * 3) (hj : j < i) : (((cs ++ ns).drop (j * 3)).take 3) = ((cs.drop (j * 3)).take 3) := by
  rw [List.drop_append_of_le_length (by omega), List.take_append_of_le_length (by simp; omega)]

theorem pollList_get (last : Nat) (ds : List Delta) (after most : Int) (hc : pollCode last ds.length after most = 0) (hle : ds.length ≤ last) (i : Nat) (x : Int × Delta) :
    (pollList last ds after most)[i]? = some x ↔ i < most.toNat ∧ ∃ d, ds[after.toNat - (last - ds.length) + i]? = some d ∧ x = (after + 1 + i, d) := by
  unfold pollList
  rw [if_pos hc]
  unfold pollCode at hc
  split at hc
  · omega
  · split at hc
    · omega
    · split at hc
      · omega
      · by_cases hi : i < most.toNat
        · rw [List.getElem?_take_of_lt hi, List.getElem?_drop, numbered_get]
          cases hd : ds[after.toNat - (last - ds.length) + i]? with
          | none => simp
          | some d =>
            simp only [Option.map_some, Option.some.injEq]
            constructor
            · rintro rfl
              exact ⟨hi, d, rfl, by congr 1; omega⟩
            · rintro ⟨_, d', hd', rfl⟩
              cases hd'
              congr 1
              omega
        · rw [List.getElem?_take_eq_none (by omega)]
          simp
          intro h; omega
theorem pollList_length (last : Nat) (ds : List Delta) (after most : Int) (hc : pollCode last ds.length after most = 0) (hle : ds.length ≤ last) :
    (pollList last ds after most).length = min most.toNat ((last : Int) - after).toNat := by
  unfold pollList
  rw [if_pos hc]
  unfold pollCode at hc
  split at hc
  · omega
  · split at hc
    · omega
    · split at hc
      · omega
      · simp [numbered_length]
        omega

set_option maxHeartbeats 3200000 in
theorem poll_yes (F : Nat → Prop) (b last : Nat) (ds : List Delta) (after most : Int) (w : World) (h : FeedAt F w b last ds) (hl : last ≤ 1099511627776) (hc : pollCode last ds.length after most = 0) :
    Meets Try.prog 12 #[.pointer (some ⟨b, 0, none⟩), .int .i64 after, .int .i64 most] w (fun v w' => ∃ vl, v = .tuple #[vl, .int .i64 0] ∧ Entries (Fresh w w') w' vl (pollList last ds after most) ∧ Keep Non w w') := by
  obtain ⟨cs, hr, hn, hcl, hck, h12, hle, hb, hs⟩ := id h
  have hpl := pollList_length last ds after most hc hle
  have hpg := pollList_get last ds after most hc hle
  have h0 : ¬ after < 0 := by unfold pollCode at hc; intro h0; rw [if_pos (.inl h0)] at hc; omega
  have h1 : ¬ (last : Int) < after := by unfold pollCode at hc; intro h1; rw [if_pos (.inr h1)] at hc; omega
  have h2 : ¬ most < 1 := by unfold pollCode at hc; intro h2; rw [if_neg (by omega), if_pos h2] at hc; omega
  have h3 : ¬ after < (last : Int) - ds.length := by unfold pollCode at hc; intro h3; rw [if_neg (by omega), if_neg h2, if_pos h3] at hc; omega
  refine Meets.enter Try.func12 Try.ntmps12 rfl rfl ?_
  (repeat first|refine .seq ?_|refine .region ?_|refine .block ?_|refine .skip ?_|refine .ret ?_|refine .exit ?_|refine .yes rfl ?_|refine .no rfl ?_|refine .nil ?_|refine .go ?_|refine .thenExit ?_|refine .thenRet ?_|refine .inExit ?_|refine .outExit rfl ?_|refine .inNormal ?_|refine .inRet ?_|refine .off rfl rfl ?_|refine .offU rfl rfl rfl ?_|(apply W.y rfl rfl;first|exact .move rfl|exact .assign rfl|exact .fieldC rfl|exact .loadW rfl (by (first|apply Ld.oneC|apply Ld.two|apply Ld.three|apply Ld.four|apply Ld.five);repeat(first|assumption|exact Row.cell (by assumption) (by first|rfl|assumption)))|exact .nilCheck rfl|exact .lenC rfl|exact .lenStrC rfl|exact .extract rfl rfl|exact .not rfl|exact .pickT rfl rfl|exact .pickF rfl rfl|exact .buildC rfl rfl|exact .indexC _ rfl rfl rfl (by omega)|exact .indexC 0 rfl rfl rfl (by omega)|exact .indexC 1 rfl rfl rfl (by omega)|exact .indexC 2 rfl rfl rfl (by omega)|exact .indexArrC _ rfl rfl rfl (by omega)|exact .indexArrC 0 rfl rfl rfl (by omega)|exact .indexArrC 1 rfl rfl rfl (by omega)|exact .indexArrC 2 rfl rfl rfl (by omega)|exact .add _ rfl rfl (wrap_i64 (by omega))|exact .sub _ rfl rfl (wrap_i64 (by omega))|exact .rem _ rfl rfl (by decide) (Int.tmod_eq_emod_of_nonneg (by omega))|exact .cmpT rfl rfl rfl (by unfold cmpP;omega)|exact .cmpF rfl rfl rfl (by unfold cmpP;omega)|fail)|fail)
  refine W.st rfl rfl (St.callC rfl (first_spec F b last ds w h hl)) (fun v1 w1 h4 => ?_)
  obtain ⟨rfl, k1⟩ := h4
  (repeat first|refine .seq ?_|refine .region ?_|refine .block ?_|refine .skip ?_|refine .ret ?_|refine .exit ?_|refine .yes rfl ?_|refine .no rfl ?_|refine .nil ?_|refine .go ?_|refine .thenExit ?_|refine .thenRet ?_|refine .inExit ?_|refine .outExit rfl ?_|refine .inNormal ?_|refine .inRet ?_|refine .off rfl rfl ?_|refine .offU rfl rfl rfl ?_|(apply W.y rfl rfl;first|exact .move rfl|exact .assign rfl|exact .fieldC rfl|exact .loadW rfl (by (first|apply Ld.oneC|apply Ld.two|apply Ld.three|apply Ld.four|apply Ld.five);repeat(first|assumption|exact Row.cell (by assumption) (by first|rfl|assumption)))|exact .nilCheck rfl|exact .lenC rfl|exact .lenStrC rfl|exact .extract rfl rfl|exact .not rfl|exact .pickT rfl rfl|exact .pickF rfl rfl|exact .buildC rfl rfl|exact .indexC _ rfl rfl rfl (by omega)|exact .indexC 0 rfl rfl rfl (by omega)|exact .indexC 1 rfl rfl rfl (by omega)|exact .indexC 2 rfl rfl rfl (by omega)|exact .indexArrC _ rfl rfl rfl (by omega)|exact .indexArrC 0 rfl rfl rfl (by omega)|exact .indexArrC 1 rfl rfl rfl (by omega)|exact .indexArrC 2 rfl rfl rfl (by omega)|exact .add _ rfl rfl (wrap_i64 (by omega))|exact .sub _ rfl rfl (wrap_i64 (by omega))|exact .rem _ rfl rfl (by decide) (Int.tmod_eq_emod_of_nonneg (by omega))|exact .cmpT rfl rfl rfl (by unfold cmpP;omega)|exact .cmpF rfl rfl rfl (by unfold cmpP;omega)|fail)|fail)
  refine C.loop (fun k L w' => ∃ (i : Nat) (vo : Value) (cs : List Value), L = [(0, .pointer (some ⟨b, 0, none⟩)), (2, .int .i64 most), (8, vo), (9, .int .i64 (after + 1 + i))] ∧ k = (pollList last ds after most).length - i ∧ i ≤ (pollList last ds after most).length ∧ w'.ownsRow w.heap.size 39 3 vo i cs ∧ Keep Non w w' ∧
      ∀ j x, j < i → (pollList last ds after most)[j]? = some x → REntry (fun k => Fresh w w' k ∧ vo.ownBlock ≠ some k) w' ((cs.drop (j * 3)).take 3) x) (pollList last ds after most).length _ ⟨0, _, [], rfl, rfl, Nat.zero_le _, World.ownsRow_nil _ _ _ _, k1, fun j x hj => absurd hj (Nat.not_lt_zero _)⟩ ⟨rfl, rfl, rfl, some_int (by omega), trivial⟩ ?_
  rintro k L w' ⟨i, vo, es, rfl, rfl, hi, hown, hk, hes⟩
  have hr' := hr.keep hk (non_not _)
  obtain ⟨A, c, rfl⟩ : ∃ A c, vo = .slice A i c := by
    rcases hown.2 with ⟨rfl, rfl⟩ | ⟨g, cap, cur, rfl, _⟩ <;> exact ⟨_, _, rfl⟩
  by_cases hlt : i < (pollList last ds after most).length
  · obtain ⟨_, d, hd, hx⟩ := (hpg i _).1 (List.getElem?_eq_getElem hlt)
    obtain ⟨va, vd, g1, g2, g3⟩ := hs _ d hd
    have hdl := (List.getElem?_eq_some_iff.1 hd).1
    have hc0 : w'.cell? ⟨b, 0 + 0 + (after.toNat + 1 + i) % 12 * 2, none⟩ = some va := by
      rw [show 0 + 0 + (after.toNat + 1 + i) % 12 * 2 = 2 * ((last - ds.length + 1 + (after.toNat - (last - ds.length) + i)) % 12) by omega]
      exact hr'.cell g1
    have hc1 : w'.cell? ⟨b, 0 + 0 + (after.toNat + 1 + i) % 12 * 2 + 1, none⟩ = some vd := by
      rw [show 0 + 0 + (after.toNat + 1 + i) % 12 * 2 = 2 * ((last - ds.length + 1 + (after.toNat - (last - ds.length) + i)) % 12) by omega]
      exact hr'.cell g2
    have g3' := g3.keep hk (fun k _ => non_not k)
    (repeat first|refine .seq ?_|refine .region ?_|refine .block ?_|refine .skip ?_|refine .ret ?_|refine .exit ?_|refine .yes rfl ?_|refine .no rfl ?_|refine .nil ?_|refine .go ?_|refine .thenExit ?_|refine .thenRet ?_|refine .inExit ?_|refine .outExit rfl ?_|refine .inNormal ?_|refine .inRet ?_|refine .off rfl rfl ?_|refine .offU rfl rfl rfl ?_|(apply W.y rfl rfl;first|exact .move rfl|exact .assign rfl|exact .fieldC rfl|exact .loadW rfl (by (first|apply Ld.oneC|apply Ld.two|apply Ld.three|apply Ld.four|apply Ld.five);repeat(first|assumption|exact Row.cell (by assumption) (by first|rfl|assumption)))|exact .nilCheck rfl|exact .lenC rfl|exact .lenStrC rfl|exact .extract rfl rfl|exact .not rfl|exact .pickT rfl rfl|exact .pickF rfl rfl|exact .buildC rfl rfl|exact .indexC _ rfl rfl rfl (by omega)|exact .indexC 0 rfl rfl rfl (by omega)|exact .indexC 1 rfl rfl rfl (by omega)|exact .indexC 2 rfl rfl rfl (by omega)|exact .indexArrC _ rfl rfl rfl (by omega)|exact .indexArrC 0 rfl rfl rfl (by omega)|exact .indexArrC 1 rfl rfl rfl (by omega)|exact .indexArrC 2 rfl rfl rfl (by omega)|exact .add _ rfl rfl (wrap_i64 (by omega))|exact .sub _ rfl rfl (wrap_i64 (by omega))|exact .rem _ rfl rfl (by decide) (Int.tmod_eq_emod_of_nonneg (by omega))|exact .cmpT rfl rfl rfl (by unfold cmpP;omega)|exact .cmpF rfl rfl rfl (by unfold cmpP;omega)|fail)|fail)
    refine W.y rfl rfl (Y.indexArrC ((after.toNat + 1 + i) % 12) rfl rfl (by omega) (by omega)) ?_
    (repeat first|refine .seq ?_|refine .region ?_|refine .block ?_|refine .skip ?_|refine .ret ?_|refine .exit ?_|refine .yes rfl ?_|refine .no rfl ?_|refine .nil ?_|refine .go ?_|refine .thenExit ?_|refine .thenRet ?_|refine .inExit ?_|refine .outExit rfl ?_|refine .inNormal ?_|refine .inRet ?_|refine .off rfl rfl ?_|refine .offU rfl rfl rfl ?_|(apply W.y rfl rfl;first|exact .move rfl|exact .assign rfl|exact .fieldC rfl|exact .loadW rfl (by (first|apply Ld.oneC|apply Ld.two|apply Ld.three|apply Ld.four|apply Ld.five);repeat(first|assumption|exact Row.cell (by assumption) (by first|rfl|assumption)))|exact .nilCheck rfl|exact .lenC rfl|exact .lenStrC rfl|exact .extract rfl rfl|exact .not rfl|exact .pickT rfl rfl|exact .pickF rfl rfl|exact .buildC rfl rfl|exact .indexC _ rfl rfl rfl (by omega)|exact .indexC 0 rfl rfl rfl (by omega)|exact .indexC 1 rfl rfl rfl (by omega)|exact .indexC 2 rfl rfl rfl (by omega)|exact .indexArrC _ rfl rfl rfl (by omega)|exact .indexArrC 0 rfl rfl rfl (by omega)|exact .indexArrC 1 rfl rfl rfl (by omega)|exact .indexArrC 2 rfl rfl rfl (by omega)|exact .add _ rfl rfl (wrap_i64 (by omega))|exact .sub _ rfl rfl (wrap_i64 (by omega))|exact .rem _ rfl rfl (by decide) (Int.tmod_eq_emod_of_nonneg (by omega))|exact .cmpT rfl rfl rfl (by unfold cmpP;omega)|exact .cmpF rfl rfl rfl (by unfold cmpP;omega)|fail)|fail)
    refine W.st rfl rfl (St.callC rfl (fown_spec F va vd d w' g3')) (fun v5 w5 h5 => ?_)
    obtain ⟨va5, vd5, rfl, h5, k5⟩ := h5
    (repeat first|refine .seq ?_|refine .region ?_|refine .block ?_|refine .skip ?_|refine .ret ?_|refine .exit ?_|refine .yes rfl ?_|refine .no rfl ?_|refine .nil ?_|refine .go ?_|refine .thenExit ?_|refine .thenRet ?_|refine .inExit ?_|refine .outExit rfl ?_|refine .inNormal ?_|refine .inRet ?_|refine .off rfl rfl ?_|refine .offU rfl rfl rfl ?_|(apply W.y rfl rfl;first|exact .move rfl|exact .assign rfl|exact .fieldC rfl|exact .loadW rfl (by (first|apply Ld.oneC|apply Ld.two|apply Ld.three|apply Ld.four|apply Ld.five);repeat(first|assumption|exact Row.cell (by assumption) (by first|rfl|assumption)))|exact .nilCheck rfl|exact .lenC rfl|exact .lenStrC rfl|exact .extract rfl rfl|exact .not rfl|exact .pickT rfl rfl|exact .pickF rfl rfl|exact .buildC rfl rfl|exact .indexC _ rfl rfl rfl (by omega)|exact .indexC 0 rfl rfl rfl (by omega)|exact .indexC 1 rfl rfl rfl (by omega)|exact .indexC 2 rfl rfl rfl (by omega)|exact .indexArrC _ rfl rfl rfl (by omega)|exact .indexArrC 0 rfl rfl rfl (by omega)|exact .indexArrC 1 rfl rfl rfl (by omega)|exact .indexArrC 2 rfl rfl rfl (by omega)|exact .add _ rfl rfl (wrap_i64 (by omega))|exact .sub _ rfl rfl (wrap_i64 (by omega))|exact .rem _ rfl rfl (by decide) (Int.tmod_eq_emod_of_nonneg (by omega))|exact .cmpT rfl rfl rfl (by unfold cmpP;omega)|exact .cmpF rfl rfl rfl (by unfold cmpP;omega)|fail)|fail)
    refine W.st rfl rfl (St.lit (vs := [.agg #[.int .i64 (after + 1 + i), va5, vd5]]) rfl rfl (by omega) (fun v hv => by simp only [List.mem_singleton] at hv; subst hv; rfl)) (fun v6 w6 h6 => ?_)
    obtain ⟨b6, rfl, hN⟩ := h6
    have hsz := hN.size
    have hat := hN.at_
    have ho6 := own_keep hN.keep (own_keep k5 hown (fun _ _ => non_not _)) (fun _ _ => non_not _)
    have hlt6 := hown.lt
    have hl6 := hown.1
    have s5 := k5.size
    have s0 := hk.size
    refine W.st rfl rfl (St.appendC w.heap.size [.int .i64 (after + 1 + i), va5, vd5] rfl rfl ho6 (hN.row.cells 0 _ rfl) rfl (one3 rfl (slice_one h5.1) (slice_one h5.2)) (by omega) (by omega)) (fun v7 w7 h7 => ?_)
    obtain ⟨h7, k7, h7b⟩ := h7
    have s7 := k7.size
    (repeat first|refine .seq ?_|refine .region ?_|refine .block ?_|refine .skip ?_|refine .ret ?_|refine .exit ?_|refine .yes rfl ?_|refine .no rfl ?_|refine .nil ?_|refine .go ?_|refine .thenExit ?_|refine .thenRet ?_|refine .inExit ?_|refine .outExit rfl ?_|refine .inNormal ?_|refine .inRet ?_|refine .off rfl rfl ?_|refine .offU rfl rfl rfl ?_|(apply W.y rfl rfl;first|exact .move rfl|exact .assign rfl|exact .fieldC rfl|exact .loadW rfl (by (first|apply Ld.oneC|apply Ld.two|apply Ld.three|apply Ld.four|apply Ld.five);repeat(first|assumption|exact Row.cell (by assumption) (by first|rfl|assumption)))|exact .nilCheck rfl|exact .lenC rfl|exact .lenStrC rfl|exact .extract rfl rfl|exact .not rfl|exact .pickT rfl rfl|exact .pickF rfl rfl|exact .buildC rfl rfl|exact .indexC _ rfl rfl rfl (by omega)|exact .indexC 0 rfl rfl rfl (by omega)|exact .indexC 1 rfl rfl rfl (by omega)|exact .indexC 2 rfl rfl rfl (by omega)|exact .indexArrC _ rfl rfl rfl (by omega)|exact .indexArrC 0 rfl rfl rfl (by omega)|exact .indexArrC 1 rfl rfl rfl (by omega)|exact .indexArrC 2 rfl rfl rfl (by omega)|exact .add _ rfl rfl (wrap_i64 (by omega))|exact .sub _ rfl rfl (wrap_i64 (by omega))|exact .rem _ rfl rfl (by decide) (Int.tmod_eq_emod_of_nonneg (by omega))|exact .cmpT rfl rfl rfl (by unfold cmpP;omega)|exact .cmpF rfl rfl rfl (by unfold cmpP;omega)|fail)|fail)
    have hk7 := ((hk.then k5).then hN.keep).far k7 (fun j hj => by have := hlt6 j hj.symm; omega)
    refine E.again _ _ ?_ ⟨i + 1, v7, _, rfl, rfl, by omega, h7, hk7, fun j x hj hx' => ?_⟩ ⟨rfl, rfl, rfl, some_int (by omega), trivial⟩
    · omega
    · by_cases hji : j = i
      · subst hji
        rw [take3_snoc hl6 rfl]
        rw [List.getElem?_eq_getElem hlt] at hx'
        simp only [Option.some.injEq] at hx'
        rw [hx] at hx'
        subst hx'
        refine ⟨va5, vd5, rfl, ?_⟩
        refine Deltas.mono (F := Fresh w' w5) (fun k hk' => ⟨⟨by have := hk'.1; omega, by have := hk'.2; omega⟩, fun e => ?_⟩) (Deltas.keep k7 (fun k hk' h => by have := hlt6 k h.symm; have := hk'.1; omega) (h5.keep hN.keep (fun k _ => non_not k)))
        have h8 := hk'.1
        have h9 := hk'.2
        rcases h7b with h7b | h7b <;> rw [h7b] at e
        · have := hlt6 k e; omega
        · cases e; omega
      · rw [take3_old hl6 (by omega)]
        have h8 := hes j x (by omega) hx'
        refine REntry.mono (fun k hk' => ⟨⟨hk'.1.1, by have := hk'.1.2; omega⟩, fun e => ?_⟩) (REntry.stable _ _ _ _ _ k7 (fun k hk' h => hk'.2 h.symm) (REntry.stable _ _ _ _ _ hN.keep (fun k _ => non_not k) (REntry.stable _ _ _ _ _ k5 (fun k _ => non_not k) h8)))
        have h9 := hk'.1.2
        rcases h7b with h7b | h7b <;> rw [h7b] at e
        · exact hk'.2 e
        · cases e; omega
  · have hfin : Entries (Fresh w w') w' (.slice A i c) (pollList last ds after most) :=
      Sl.of_own hown (by omega) (by omega) (fun b hb => hown.lt b hb) (fun j x hj => REntry.mono (fun _ h => h.1) (hes j x (by have := (List.getElem?_eq_some_iff.1 hj).1; omega) hj))
    by_cases h5 : after + 1 + (i : Int) ≤ last
    all_goals
      (repeat first|refine .seq ?_|refine .region ?_|refine .block ?_|refine .skip ?_|refine .ret ?_|refine .exit ?_|refine .yes rfl ?_|refine .no rfl ?_|refine .nil ?_|refine .go ?_|refine .thenExit ?_|refine .thenRet ?_|refine .inExit ?_|refine .outExit rfl ?_|refine .inNormal ?_|refine .inRet ?_|refine .off rfl rfl ?_|refine .offU rfl rfl rfl ?_|(apply W.y rfl rfl;first|exact .move rfl|exact .assign rfl|exact .fieldC rfl|exact .loadW rfl (by (first|apply Ld.oneC|apply Ld.two|apply Ld.three|apply Ld.four|apply Ld.five);repeat(first|assumption|exact Row.cell (by assumption) (by first|rfl|assumption)))|exact .nilCheck rfl|exact .lenC rfl|exact .lenStrC rfl|exact .extract rfl rfl|exact .not rfl|exact .pickT rfl rfl|exact .pickF rfl rfl|exact .buildC rfl rfl|exact .indexC _ rfl rfl rfl (by omega)|exact .indexC 0 rfl rfl rfl (by omega)|exact .indexC 1 rfl rfl rfl (by omega)|exact .indexC 2 rfl rfl rfl (by omega)|exact .indexArrC _ rfl rfl rfl (by omega)|exact .indexArrC 0 rfl rfl rfl (by omega)|exact .indexArrC 1 rfl rfl rfl (by omega)|exact .indexArrC 2 rfl rfl rfl (by omega)|exact .add _ rfl rfl (wrap_i64 (by omega))|exact .sub _ rfl rfl (wrap_i64 (by omega))|exact .rem _ rfl rfl (by decide) (Int.tmod_eq_emod_of_nonneg (by omega))|exact .cmpT rfl rfl rfl (by unfold cmpP;omega)|exact .cmpF rfl rfl rfl (by unfold cmpP;omega)|fail)|fail)
      refine W.st rfl rfl (St.callC rfl (clipe_spec _ _ _ w' hfin)) (fun v8 w8 h8 => ?_)
      obtain ⟨h8, rfl⟩ := h8
      (repeat first|refine .seq ?_|refine .region ?_|refine .block ?_|refine .skip ?_|refine .ret ?_|refine .exit ?_|refine .yes rfl ?_|refine .no rfl ?_|refine .nil ?_|refine .go ?_|refine .thenExit ?_|refine .thenRet ?_|refine .inExit ?_|refine .outExit rfl ?_|refine .inNormal ?_|refine .inRet ?_|refine .off rfl rfl ?_|refine .offU rfl rfl rfl ?_|(apply W.y rfl rfl;first|exact .move rfl|exact .assign rfl|exact .fieldC rfl|exact .loadW rfl (by (first|apply Ld.oneC|apply Ld.two|apply Ld.three|apply Ld.four|apply Ld.five);repeat(first|assumption|exact Row.cell (by assumption) (by first|rfl|assumption)))|exact .nilCheck rfl|exact .lenC rfl|exact .lenStrC rfl|exact .extract rfl rfl|exact .not rfl|exact .pickT rfl rfl|exact .pickF rfl rfl|exact .buildC rfl rfl|exact .indexC _ rfl rfl rfl (by omega)|exact .indexC 0 rfl rfl rfl (by omega)|exact .indexC 1 rfl rfl rfl (by omega)|exact .indexC 2 rfl rfl rfl (by omega)|exact .indexArrC _ rfl rfl rfl (by omega)|exact .indexArrC 0 rfl rfl rfl (by omega)|exact .indexArrC 1 rfl rfl rfl (by omega)|exact .indexArrC 2 rfl rfl rfl (by omega)|exact .add _ rfl rfl (wrap_i64 (by omega))|exact .sub _ rfl rfl (wrap_i64 (by omega))|exact .rem _ rfl rfl (by decide) (Int.tmod_eq_emod_of_nonneg (by omega))|exact .cmpT rfl rfl rfl (by unfold cmpP;omega)|exact .cmpF rfl rfl rfl (by unfold cmpP;omega)|fail)|fail)
      exact E.ret2 rfl rfl rfl ⟨_, rfl, h8, hk⟩

/-- A feed is there: what Poll answers, in one. -/
theorem poll_spec (F : Nat → Prop) (b last : Nat) (ds : List Delta) (after most : Int) (w : World) (h : FeedAt F w b last ds) (hl : last ≤ 1099511627776) :
    Meets Try.prog 12 #[.pointer (some ⟨b, 0, none⟩), .int .i64 after, .int .i64 most] w (fun v w' => ∃ vl, v = .tuple #[vl, .int .i64 (pollCode last ds.length after most)] ∧ Entries (Fresh w w') w' vl (pollList last ds after most) ∧ Keep Non w w') := by
  by_cases hc : pollCode last ds.length after most = 0
  · rw [hc]
    exact poll_yes F b last ds after most w h hl hc
  · refine (poll_no F b last ds after most w h hl hc).imp (fun v w' hv => ?_)
    obtain ⟨rfl, hk⟩ := hv
    refine ⟨_, rfl, ?_, hk⟩
    unfold pollList
    rw [if_neg hc]
    exact Sl.nil

/-- Kept. -/
theorem kept_spec (F : Nat → Prop) (b last : Nat) (ds : List Delta) (w : World) (h : FeedAt F w b last ds) (hl : last ≤ 1099511627776) :
    Meets Try.prog 25 #[.pointer (some ⟨b, 0, none⟩)] w (fun v w' => Entries (Fresh w w') w' v (numbered (last - ds.length + 1) ds) ∧ Keep Non w w') := by
  obtain ⟨cs, hr, hn, hcl, hck, h12, hle, hb, hs⟩ := id h
  refine Meets.enter Try.func25 Try.ntmps25 rfl rfl ?_
  (repeat first|refine .seq ?_|refine .region ?_|refine .block ?_|refine .skip ?_|refine .ret ?_|refine .exit ?_|refine .yes rfl ?_|refine .no rfl ?_|refine .nil ?_|refine .go ?_|refine .thenExit ?_|refine .thenRet ?_|refine .inExit ?_|refine .outExit rfl ?_|refine .inNormal ?_|refine .inRet ?_|refine .off rfl rfl ?_|refine .offU rfl rfl rfl ?_|(apply W.y rfl rfl;first|exact .move rfl|exact .assign rfl|exact .fieldC rfl|exact .loadW rfl (by (first|apply Ld.oneC|apply Ld.two|apply Ld.three|apply Ld.four|apply Ld.five);repeat(first|assumption|exact Row.cell (by assumption) (by first|rfl|assumption)))|exact .nilCheck rfl|exact .lenC rfl|exact .lenStrC rfl|exact .extract rfl rfl|exact .not rfl|exact .pickT rfl rfl|exact .pickF rfl rfl|exact .buildC rfl rfl|exact .indexC _ rfl rfl rfl (by omega)|exact .indexC 0 rfl rfl rfl (by omega)|exact .indexC 1 rfl rfl rfl (by omega)|exact .indexC 2 rfl rfl rfl (by omega)|exact .indexArrC _ rfl rfl rfl (by omega)|exact .indexArrC 0 rfl rfl rfl (by omega)|exact .indexArrC 1 rfl rfl rfl (by omega)|exact .indexArrC 2 rfl rfl rfl (by omega)|exact .add _ rfl rfl (wrap_i64 (by omega))|exact .sub _ rfl rfl (wrap_i64 (by omega))|exact .rem _ rfl rfl (by decide) (Int.tmod_eq_emod_of_nonneg (by omega))|exact .cmpT rfl rfl rfl (by unfold cmpP;omega)|exact .cmpF rfl rfl rfl (by unfold cmpP;omega)|fail)|fail)
  refine W.st rfl rfl (St.callC rfl (first_spec F b last ds w h hl)) (fun v1 w1 h4 => ?_)
  obtain ⟨rfl, k1⟩ := h4
  (repeat first|refine .seq ?_|refine .region ?_|refine .block ?_|refine .skip ?_|refine .ret ?_|refine .exit ?_|refine .yes rfl ?_|refine .no rfl ?_|refine .nil ?_|refine .go ?_|refine .thenExit ?_|refine .thenRet ?_|refine .inExit ?_|refine .outExit rfl ?_|refine .inNormal ?_|refine .inRet ?_|refine .off rfl rfl ?_|refine .offU rfl rfl rfl ?_|(apply W.y rfl rfl;first|exact .move rfl|exact .assign rfl|exact .fieldC rfl|exact .loadW rfl (by (first|apply Ld.oneC|apply Ld.two|apply Ld.three|apply Ld.four|apply Ld.five);repeat(first|assumption|exact Row.cell (by assumption) (by first|rfl|assumption)))|exact .nilCheck rfl|exact .lenC rfl|exact .lenStrC rfl|exact .extract rfl rfl|exact .not rfl|exact .pickT rfl rfl|exact .pickF rfl rfl|exact .buildC rfl rfl|exact .indexC _ rfl rfl rfl (by omega)|exact .indexC 0 rfl rfl rfl (by omega)|exact .indexC 1 rfl rfl rfl (by omega)|exact .indexC 2 rfl rfl rfl (by omega)|exact .indexArrC _ rfl rfl rfl (by omega)|exact .indexArrC 0 rfl rfl rfl (by omega)|exact .indexArrC 1 rfl rfl rfl (by omega)|exact .indexArrC 2 rfl rfl rfl (by omega)|exact .add _ rfl rfl (wrap_i64 (by omega))|exact .sub _ rfl rfl (wrap_i64 (by omega))|exact .rem _ rfl rfl (by decide) (Int.tmod_eq_emod_of_nonneg (by omega))|exact .cmpT rfl rfl rfl (by unfold cmpP;omega)|exact .cmpF rfl rfl rfl (by unfold cmpP;omega)|fail)|fail)
  refine W.st rfl rfl (St.callC rfl (poll_spec F b last ds _ 12 w1 (h.keep k1 (fun k _ => non_not k) (non_not _)) hl)) (fun v2 w2 h2 => ?_)
  obtain ⟨vl, rfl, h2, k2⟩ := h2
  (repeat first|refine .seq ?_|refine .region ?_|refine .block ?_|refine .skip ?_|refine .ret ?_|refine .exit ?_|refine .yes rfl ?_|refine .no rfl ?_|refine .nil ?_|refine .go ?_|refine .thenExit ?_|refine .thenRet ?_|refine .inExit ?_|refine .outExit rfl ?_|refine .inNormal ?_|refine .inRet ?_|refine .off rfl rfl ?_|refine .offU rfl rfl rfl ?_|(apply W.y rfl rfl;first|exact .move rfl|exact .assign rfl|exact .fieldC rfl|exact .loadW rfl (by (first|apply Ld.oneC|apply Ld.two|apply Ld.three|apply Ld.four|apply Ld.five);repeat(first|assumption|exact Row.cell (by assumption) (by first|rfl|assumption)))|exact .nilCheck rfl|exact .lenC rfl|exact .lenStrC rfl|exact .extract rfl rfl|exact .not rfl|exact .pickT rfl rfl|exact .pickF rfl rfl|exact .buildC rfl rfl|exact .indexC _ rfl rfl rfl (by omega)|exact .indexC 0 rfl rfl rfl (by omega)|exact .indexC 1 rfl rfl rfl (by omega)|exact .indexC 2 rfl rfl rfl (by omega)|exact .indexArrC _ rfl rfl rfl (by omega)|exact .indexArrC 0 rfl rfl rfl (by omega)|exact .indexArrC 1 rfl rfl rfl (by omega)|exact .indexArrC 2 rfl rfl rfl (by omega)|exact .add _ rfl rfl (wrap_i64 (by omega))|exact .sub _ rfl rfl (wrap_i64 (by omega))|exact .rem _ rfl rfl (by decide) (Int.tmod_eq_emod_of_nonneg (by omega))|exact .cmpT rfl rfl rfl (by unfold cmpP;omega)|exact .cmpF rfl rfl rfl (by unfold cmpP;omega)|fail)|fail)
  refine E.ret1 rfl rfl ⟨?_, k1.then k2⟩
  have e : pollList last ds ((last : Int) - ds.length + 1 - 1) 12 = numbered (last - ds.length + 1) ds := by
    have hc : pollCode last ds.length ((last : Int) - ds.length + 1 - 1) 12 = 0 := by
      unfold pollCode
      rw [if_neg (by omega), if_neg (by omega), if_neg (by omega)]
    unfold pollList
    rw [if_pos hc, show ((last : Int) - ds.length + 1 - 1).toNat - (last - ds.length) = 0 by omega, List.drop_zero]
    exact List.take_of_length_le (by rw [numbered_length]; exact h12)
  rw [e] at h2
  exact h2.mono (fun k hk => ⟨by have := hk.1; have := k1.size; omega, hk.2⟩)
end Go.Proofs.Ytkehmehodgcdfaa
