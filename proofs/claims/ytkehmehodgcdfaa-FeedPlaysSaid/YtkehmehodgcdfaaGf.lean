/- rhizomelaw10.Own: lists with memory of their own. -/
import Derived.Test.YtkehmehodgcdfaaGe
namespace Go.Proofs.Ytkehmehodgcdfaa
open Vb Go.RowKit

theorem St.appendInts {nn : Nat} {L : FL} {w : World} {ty : TypeId} {s x : Operand} {v v2 : Value} (base : Nat) {G : Nat → Prop} {xs : List Int} (hs : ev L s = some v) (hx : ev L x = some v2) (hown : w.ownsRow base 3 1 v 0 []) (hI : Ints G w v2 xs) (hbase : base ≤ w.heap.size) :
    St Try.prog nn L w (.call { callee := .builtin .append, args := #[s, x], argTypes := #[40, 40] }) ty (fun v' w' => w'.ownsRow base 3 1 v' xs.length (xs.map (Value.int .i64)) ∧ Keep (fun k => some k = v.ownBlock) w w' ∧ (v'.ownBlock = v.ownBlock ∨ v'.ownBlock = some w.heap.size)) := by
  have hlen := hI.len
  obtain ⟨A, c, rfl, hc, hn, hb1, he1⟩ := id hI
  by_cases h0 : xs.length = 0
  · have e0 : xs = [] := List.eq_nil_of_length_eq_zero h0
    subst e0
    have hmc : ∃ A' c', v = .slice A' 0 c' ∧ 0 ≤ c' := by
      rcases hown.2 with ⟨e1, e2⟩ | ⟨g, cap, cur, rfl, hg, hh, hcap, r⟩
      · exact ⟨none, 0, by rw [e1], by omega⟩
      · exact ⟨_, cap, rfl, hcap⟩
    obtain ⟨A', c', rfl, hmc⟩ := hmc
    refine (St.ofY (Y.appendNoneC hs hx hmc)).imp (fun v' w' h => ?_)
    obtain ⟨rfl, rfl⟩ := h
    exact ⟨by simpa using hown, Keep.refl _ _, .inl rfl⟩
  · obtain ⟨b', o', e1, hFb, hcs⟩ := hI.cells (by omega)
    cases e1
    refine (St.appendC base (xs.map (Value.int .i64)) hs hx hown hcs (by simp) (ints_one _ _) (by omega) hbase).imp (fun v' w' h => ?_)
    rw [Nat.zero_add, List.nil_append] at h
    exact h
set_option maxHeartbeats 3200000 in
theorem ownL_spec (F : Nat → Prop) (v : Value) (xs : List (List Int)) (w : World) (h : Intss F w v xs) (hn9 : xs.length ≤ 1000000) :
    Meets Try.prog 21 #[v] w (fun r w' => TW w.heap.size w'.heap.size w' r xs ∧ Keep Non w w') := by
  have h' := h
  obtain ⟨A, c, rfl, hc, hn, hb, he⟩ := h
  refine Meets.enter Try.func21 Try.ntmps21 rfl rfl ?_
  (repeat first|refine .seq ?_|refine .region ?_|refine .block ?_|refine .skip ?_|refine .ret ?_|refine .exit ?_|refine .yes rfl ?_|refine .no rfl ?_|refine .nil ?_|refine .go ?_|refine .thenExit ?_|refine .thenRet ?_|refine .inExit ?_|refine .outExit rfl ?_|refine .inNormal ?_|refine .inRet ?_|refine .off rfl rfl ?_|refine .offU rfl rfl rfl ?_|(apply W.y rfl rfl;first|exact .move rfl|exact .assign rfl|exact .fieldC rfl|exact .loadW rfl (by (first|apply Ld.oneC|apply Ld.two|apply Ld.three|apply Ld.four|apply Ld.five);repeat(first|assumption|exact Row.cell (by assumption) (by first|rfl|assumption)))|exact .nilCheck rfl|exact .lenC rfl|exact .lenStrC rfl|exact .extract rfl rfl|exact .not rfl|exact .pickT rfl rfl|exact .pickF rfl rfl|exact .buildC rfl rfl|exact .indexC _ rfl rfl rfl (by omega)|exact .indexC 0 rfl rfl rfl (by omega)|exact .indexC 1 rfl rfl rfl (by omega)|exact .indexC 2 rfl rfl rfl (by omega)|exact .indexArrC _ rfl rfl rfl (by omega)|exact .indexArrC 0 rfl rfl rfl (by omega)|exact .indexArrC 1 rfl rfl rfl (by omega)|exact .indexArrC 2 rfl rfl rfl (by omega)|exact .add _ rfl rfl (wrap_i64 (by omega))|exact .sub _ rfl rfl (wrap_i64 (by omega))|exact .rem _ rfl rfl (by decide) (Int.tmod_eq_emod_of_nonneg (by omega))|exact .cmpT rfl rfl rfl (by unfold cmpP;omega)|exact .cmpF rfl rfl rfl (by unfold cmpP;omega)|fail)|fail)
  refine C.loop (fun k L w' => ∃ (i : Nat) (vo : Value) (cs : List Value), L = [(3, vo), (6, .slice A xs.length c), (7, .int .i64 xs.length), (8, .int .i64 i)] ∧ k = xs.length - i ∧ i ≤ xs.length ∧ w'.ownsRow w.heap.size 40 1 vo i cs ∧ Keep Non w w' ∧
      ∀ j x, j < i → xs[j]? = some x → RT (fun k => w.heap.size ≤ k ∧ Writ w' k ∧ vo.ownBlock ≠ some k) w' ((cs.drop (j * 1)).take 1) x) xs.length _ ⟨0, _, [], rfl, rfl, Nat.zero_le _, ⟨rfl, .inl ⟨rfl, rfl⟩⟩, Keep.refl _ _, fun j x hj => absurd hj (Nat.not_lt_zero _)⟩ ⟨rfl, rfl, rfl, rfl, trivial⟩ ?_
  rintro k L w' ⟨i, vo, cs, rfl, rfl, hi, hown, hk, hcs⟩
  by_cases hlt : i < xs.length
  · obtain ⟨b, o, cs1, rfl, hFb, hl1, hc1, v1, rfl, hv1⟩ := he i _ (List.getElem?_eq_getElem hlt)
    have hcell : w'.cell? ⟨b, o + i * 1, none⟩ = some v1 := hk.cell (hc1 0 v1 rfl) (non_not _)
    have hv1' := hv1.keep hk (fun k _ => non_not k)
    have hl4 : cs.length = i := by have := hown.1; omega
    have hlt4 := hown.lt
    have s0 := hk.size
    (repeat first|refine .seq ?_|refine .region ?_|refine .block ?_|refine .skip ?_|refine .ret ?_|refine .exit ?_|refine .yes rfl ?_|refine .no rfl ?_|refine .nil ?_|refine .go ?_|refine .thenExit ?_|refine .thenRet ?_|refine .inExit ?_|refine .outExit rfl ?_|refine .inNormal ?_|refine .inRet ?_|refine .off rfl rfl ?_|refine .offU rfl rfl rfl ?_|(apply W.y rfl rfl;first|exact .move rfl|exact .assign rfl|exact .fieldC rfl|exact .loadW rfl (by (first|apply Ld.oneC|apply Ld.two|apply Ld.three|apply Ld.four|apply Ld.five);repeat(first|assumption|exact Row.cell (by assumption) (by first|rfl|assumption)))|exact .nilCheck rfl|exact .lenC rfl|exact .lenStrC rfl|exact .extract rfl rfl|exact .not rfl|exact .pickT rfl rfl|exact .pickF rfl rfl|exact .buildC rfl rfl|exact .indexC _ rfl rfl rfl (by omega)|exact .indexC 0 rfl rfl rfl (by omega)|exact .indexC 1 rfl rfl rfl (by omega)|exact .indexC 2 rfl rfl rfl (by omega)|exact .indexArrC _ rfl rfl rfl (by omega)|exact .indexArrC 0 rfl rfl rfl (by omega)|exact .indexArrC 1 rfl rfl rfl (by omega)|exact .indexArrC 2 rfl rfl rfl (by omega)|exact .add _ rfl rfl (wrap_i64 (by omega))|exact .sub _ rfl rfl (wrap_i64 (by omega))|exact .rem _ rfl rfl (by decide) (Int.tmod_eq_emod_of_nonneg (by omega))|exact .cmpT rfl rfl rfl (by unfold cmpP;omega)|exact .cmpF rfl rfl rfl (by unfold cmpP;omega)|fail)|fail)
    refine W.st rfl rfl (St.lit (vs := []) rfl rfl (by omega) (fun _ h => by cases h)) (fun v2 w2 h2 => ?_)
    obtain ⟨b2, rfl, hN2⟩ := h2
    have a2 := hN2.at_
    have s2 := hN2.size
    have hown2 : w2.ownsRow w'.heap.size 3 1 (.slice (some ⟨b2, 0, none⟩) 0 0) 0 [] := ⟨rfl, .inr ⟨b2, 0, #[], rfl, by omega, hN2.row, Nat.le_refl _, Nat.zero_le _, rfl, rfl⟩⟩
    have hv2 := hv1'.keep hN2.keep (fun k _ => non_not k)
    have ho2 := own_keep hN2.keep hown (fun _ _ => non_not _)
    (repeat first|refine .seq ?_|refine .region ?_|refine .block ?_|refine .skip ?_|refine .ret ?_|refine .exit ?_|refine .yes rfl ?_|refine .no rfl ?_|refine .nil ?_|refine .go ?_|refine .thenExit ?_|refine .thenRet ?_|refine .inExit ?_|refine .outExit rfl ?_|refine .inNormal ?_|refine .inRet ?_|refine .off rfl rfl ?_|refine .offU rfl rfl rfl ?_|(apply W.y rfl rfl;first|exact .move rfl|exact .assign rfl|exact .fieldC rfl|exact .loadW rfl (by (first|apply Ld.oneC|apply Ld.two|apply Ld.three|apply Ld.four|apply Ld.five);repeat(first|assumption|exact Row.cell (by assumption) (by first|rfl|assumption)))|exact .nilCheck rfl|exact .lenC rfl|exact .lenStrC rfl|exact .extract rfl rfl|exact .not rfl|exact .pickT rfl rfl|exact .pickF rfl rfl|exact .buildC rfl rfl|exact .indexC _ rfl rfl rfl (by omega)|exact .indexC 0 rfl rfl rfl (by omega)|exact .indexC 1 rfl rfl rfl (by omega)|exact .indexC 2 rfl rfl rfl (by omega)|exact .indexArrC _ rfl rfl rfl (by omega)|exact .indexArrC 0 rfl rfl rfl (by omega)|exact .indexArrC 1 rfl rfl rfl (by omega)|exact .indexArrC 2 rfl rfl rfl (by omega)|exact .add _ rfl rfl (wrap_i64 (by omega))|exact .sub _ rfl rfl (wrap_i64 (by omega))|exact .rem _ rfl rfl (by decide) (Int.tmod_eq_emod_of_nonneg (by omega))|exact .cmpT rfl rfl rfl (by unfold cmpP;omega)|exact .cmpF rfl rfl rfl (by unfold cmpP;omega)|fail)|fail)
    refine W.st rfl rfl (St.appendInts w'.heap.size rfl rfl hown2 hv2 (by omega)) (fun v3 w3 h3 => ?_)
    obtain ⟨hown3, k3, h3b⟩ := h3
    have s3 := k3.size
    have hlt3 := hown3.lt
    have hk3 : Keep Non w' w3 := hN2.keep.far k3 (fun j hj => by have := ownB' hj; omega)
    have ho3 : w3.ownsRow w.heap.size 40 1 vo i cs := own_keep hk3 hown (fun _ _ => non_not _)
    obtain ⟨A3, c3, rfl⟩ : ∃ A3 c3, v3 = .slice A3 xs[i].length c3 := by
      obtain ⟨c3, e | ⟨b, o, e⟩⟩ := own_pl hown3
      · exact ⟨_, _, e⟩
      · exact ⟨_, _, e⟩
    refine W.st rfl rfl (St.lit (vs := [.slice A3 xs[i].length c3]) rfl rfl (by omega) (fun v hv => by simp only [List.mem_singleton] at hv; subst hv; rfl)) (fun v4 w4 h4 => ?_)
    obtain ⟨b4, rfl, hN⟩ := h4
    have hsz := hN.size
    have hat := hN.at_
    have ho4 : w4.ownsRow w.heap.size 40 1 vo i cs := own_keep hN.keep ho3 (fun _ _ => non_not _)
    refine W.st rfl rfl (St.appendC w.heap.size [.slice A3 xs[i].length c3] rfl rfl ho4 (hN.row.cells 0 _ rfl) rfl (fun u hu => by simp only [List.mem_singleton] at hu; subst hu; rfl) (by omega) (by omega)) (fun v5 w5 h5 => ?_)
    obtain ⟨h5, k5, h5b⟩ := h5
    (repeat first|refine .seq ?_|refine .region ?_|refine .block ?_|refine .skip ?_|refine .ret ?_|refine .exit ?_|refine .yes rfl ?_|refine .no rfl ?_|refine .nil ?_|refine .go ?_|refine .thenExit ?_|refine .thenRet ?_|refine .inExit ?_|refine .outExit rfl ?_|refine .inNormal ?_|refine .inRet ?_|refine .off rfl rfl ?_|refine .offU rfl rfl rfl ?_|(apply W.y rfl rfl;first|exact .move rfl|exact .assign rfl|exact .fieldC rfl|exact .loadW rfl (by (first|apply Ld.oneC|apply Ld.two|apply Ld.three|apply Ld.four|apply Ld.five);repeat(first|assumption|exact Row.cell (by assumption) (by first|rfl|assumption)))|exact .nilCheck rfl|exact .lenC rfl|exact .lenStrC rfl|exact .extract rfl rfl|exact .not rfl|exact .pickT rfl rfl|exact .pickF rfl rfl|exact .buildC rfl rfl|exact .indexC _ rfl rfl rfl (by omega)|exact .indexC 0 rfl rfl rfl (by omega)|exact .indexC 1 rfl rfl rfl (by omega)|exact .indexC 2 rfl rfl rfl (by omega)|exact .indexArrC _ rfl rfl rfl (by omega)|exact .indexArrC 0 rfl rfl rfl (by omega)|exact .indexArrC 1 rfl rfl rfl (by omega)|exact .indexArrC 2 rfl rfl rfl (by omega)|exact .add _ rfl rfl (wrap_i64 (by omega))|exact .sub _ rfl rfl (wrap_i64 (by omega))|exact .rem _ rfl rfl (by decide) (Int.tmod_eq_emod_of_nonneg (by omega))|exact .cmpT rfl rfl rfl (by unfold cmpP;omega)|exact .cmpF rfl rfl rfl (by unfold cmpP;omega)|fail)|fail)
    have hk5 := ((hk.then hk3).then hN.keep).far k5 (fun j hj => by have := hlt4 j hj.symm; omega)
    have s5 := k5.size
    refine E.again _ _ ?_ ⟨i + 1, v5, _, rfl, rfl, by omega, h5, hk5, fun j x hj hx => ?_⟩ ⟨rfl, rfl, rfl, rfl, trivial⟩
    · omega
    · by_cases hji : j = i
      · subst hji
        rw [take_snoc hl4]
        have : x = xs[j] := by rw [List.getElem?_eq_getElem hlt] at hx; simpa using hx.symm
        subst this
        have hns : ∀ k, w'.heap.size ≤ k → vo.ownBlock ≠ some k := fun k hk' h => by have := hlt4 k h; omega
        have hri : RT (fun k => w'.heap.size ≤ k ∧ Writ w3 k) w3 [.slice A3 xs[j].length c3] xs[j] :=
          ⟨_, rfl, Ints.of_own hown3 (by have := hv1.len; omega) (fun b' hb' => ⟨(hlt3 b' hb').1, writ_own hown3 hb'⟩), .inr (.inr ⟨_, _, hown3, fun b' hb' => ⟨(hlt3 b' hb').1, writ_own hown3 hb'⟩⟩)⟩
        refine RT.mono (F := fun k => w'.heap.size ≤ k ∧ Writ w3 k) (fun k hk' => ⟨by omega, (hk'.2.keep hN.keep (non_not _)).keep k5 (fun e => hns k hk'.1 e.symm), fun e => ?_⟩) (RT.stable _ _ _ _ _ k5 (fun k hk' h => hns k hk'.1 h.symm) (RT.stable _ _ _ _ _ hN.keep (fun k _ => non_not k) hri))
        have h8 := hk'.2.lt
        rcases h5b with h5b | h5b <;> rw [h5b] at e
        · exact hns k hk'.1 e
        · cases e; omega
      · rw [take_old hl4 (by omega)]
        have h6 := hcs j x (by omega) hx
        refine RT.mono (fun k hk' => ⟨hk'.1, ((hk'.2.1.keep hk3 (non_not _)).keep hN.keep (non_not _)).keep k5 (fun e => hk'.2.2 e.symm), fun e => ?_⟩) (RT.stable _ _ _ _ _ k5 (fun k hk' h => hk'.2.2 h.symm) (RT.stable _ _ _ _ _ hN.keep (fun k _ => non_not k) (RT.stable _ _ _ _ _ hk3 (fun k _ => non_not k) h6)))
        have h8 := hk'.2.1.lt
        rcases h5b with h5b | h5b <;> rw [h5b] at e
        · exact hk'.2.2 e
        · cases e; omega
  · (repeat first|refine .seq ?_|refine .region ?_|refine .block ?_|refine .skip ?_|refine .ret ?_|refine .exit ?_|refine .yes rfl ?_|refine .no rfl ?_|refine .nil ?_|refine .go ?_|refine .thenExit ?_|refine .thenRet ?_|refine .inExit ?_|refine .outExit rfl ?_|refine .inNormal ?_|refine .inRet ?_|refine .off rfl rfl ?_|refine .offU rfl rfl rfl ?_|(apply W.y rfl rfl;first|exact .move rfl|exact .assign rfl|exact .fieldC rfl|exact .loadW rfl (by (first|apply Ld.oneC|apply Ld.two|apply Ld.three|apply Ld.four|apply Ld.five);repeat(first|assumption|exact Row.cell (by assumption) (by first|rfl|assumption)))|exact .nilCheck rfl|exact .lenC rfl|exact .lenStrC rfl|exact .extract rfl rfl|exact .not rfl|exact .pickT rfl rfl|exact .pickF rfl rfl|exact .buildC rfl rfl|exact .indexC _ rfl rfl rfl (by omega)|exact .indexC 0 rfl rfl rfl (by omega)|exact .indexC 1 rfl rfl rfl (by omega)|exact .indexC 2 rfl rfl rfl (by omega)|exact .indexArrC _ rfl rfl rfl (by omega)|exact .indexArrC 0 rfl rfl rfl (by omega)|exact .indexArrC 1 rfl rfl rfl (by omega)|exact .indexArrC 2 rfl rfl rfl (by omega)|exact .add _ rfl rfl (wrap_i64 (by omega))|exact .sub _ rfl rfl (wrap_i64 (by omega))|exact .rem _ rfl rfl (by decide) (Int.tmod_eq_emod_of_nonneg (by omega))|exact .cmpT rfl rfl rfl (by unfold cmpP;omega)|exact .cmpF rfl rfl rfl (by unfold cmpP;omega)|fail)|fail)
    refine E.ret1 rfl rfl ⟨?_, hk⟩
    have hi' : xs.length = i := by omega
    exact ⟨fun k => vo.ownBlock = some k, Sl.of_own hown hi' (by omega) (fun b hb => hb) (fun j x hj => RT.mono (fun k h => ⟨h.1, h.2.1.lt, h.2.1, h.2.2⟩) (hcs j x (by have := (List.getElem?_eq_some_iff.1 hj).1; omega) hj)), fun k hk => ⟨(hown.lt k hk).1, (hown.lt k hk).2, writ_own hown hk⟩⟩
end Go.Proofs.Ytkehmehodgcdfaa
