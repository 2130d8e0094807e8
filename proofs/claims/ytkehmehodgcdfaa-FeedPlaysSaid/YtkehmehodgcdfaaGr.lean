/- rhizomeref20.Add, walked: first its end. -/
import Derived.Test.YtkehmehodgcdfaaGq
namespace Go.Proofs.Ytkehmehodgcdfaa
open Vb Go.RowKit

theorem Sl.cutLo {α : Type} {F : Nat → Prop} {sz bytes : Nat} {R : World → List Value → α → Prop} {w : World} {b o n c : Nat} {xs : List α} (l : Nat) (h : Sl F sz bytes R w (.slice (some ⟨b, o, none⟩) n c) xs) (hl : l ≤ n) :
    Sl F sz bytes R w (.slice (some ⟨b, if c = l then o else o + l * sz, none⟩) (n - l) (c - l)) (xs.drop l) := by
  obtain ⟨A, c', hv, hc, hn, hb, he⟩ := h
  simp only [Value.slice.injEq] at hv
  obtain ⟨rfl, rfl, rfl⟩ := hv
  refine ⟨_, _, by rw [List.length_drop], by rw [List.length_drop]; omega, (fun e => absurd e (by simp)), by rw [List.length_drop]; exact Nat.le_trans (Nat.mul_le_mul_right bytes (by omega)) hb, fun i x hi => ?_⟩
  rw [List.getElem?_drop] at hi
  have hlt := (List.getElem?_eq_some_iff.1 hi).1
  obtain ⟨b', o', cs, h1, h2, h3, h4, h5⟩ := he (l + i) x hi
  simp only [Option.some.injEq, Addr.mk.injEq] at h1
  obtain ⟨rfl, rfl, _⟩ := h1
  refine ⟨b, o + l * sz, cs, by rw [if_neg (by omega)], h2, h3, ?_, h5⟩
  rw [Nat.add_mul, ← Nat.add_assoc] at h4
  exact h4
theorem rentry_one {F : Nat → Prop} {w : World} {cs : List Value} {x : Int × Delta} (h : REntry F w cs x) : ∀ u ∈ cs, u.oneCell' = true := by
  obtain ⟨va, vd, rfl, h2⟩ := h
  exact one3 rfl (slice_one h2.1) (slice_one h2.2)
def cut12 (es : List (Int × Delta)) : List (Int × Delta) := if 12 < es.length then es.drop (es.length - 12) else es
set_option maxHeartbeats 3200000 in
theorem radd_tail (G : Nat → Prop) (b2 b4 : Nat) (last : Int) (v : Value) (es : List (Int × Delta)) (w : World) (h2 : Row w b2 49 [.int .i64 last, v]) (h4 : Row w b4 49 [.int .i64 0, .slice none 0 0]) (hne : b4 ≠ b2) (hE : Entries G w v es) (hG : ∀ k, G k → k ≠ b2 ∧ k ≠ b4) (hn : es.length ≤ 13) :
    C Try.prog 37 (pc [1,1,1,1] Try.f22) (Post 37 (fun e L' w' => e = .ret ∧ ∃ v', L' = [(4, .pointer (some ⟨b4, 0, none⟩)), (5, .bool true)] ∧ Row w' b4 49 [.int .i64 last, v'] ∧ Entries G w' v' (cut12 es) ∧ Keep (fun k => k = b2 ∨ k = b4) w w')) [(2, .pointer (some ⟨b2, 0, none⟩)), (4, .pointer (some ⟨b4, 0, none⟩))] w := by
  have q0 := h2.cell (j := 0) rfl
  have q1 := h2.cell (j := 1) rfl
  obtain ⟨A, c, rfl, hc, hnn, hb, he⟩ := id hE
  unfold cut12
  by_cases h12 : 12 < es.length
  · rw [if_pos h12]
    obtain ⟨bb, o, cs, rfl, _⟩ := he 0 _ (List.getElem?_eq_getElem (by omega))
    (repeat first|refine .seq ?_|refine .region ?_|refine .block ?_|refine .skip ?_|refine .ret ?_|refine .exit ?_|refine .yes rfl ?_|refine .no rfl ?_|refine .nil ?_|refine .go ?_|refine .thenExit ?_|refine .thenRet ?_|refine .inExit ?_|refine .outExit rfl ?_|refine .inNormal ?_|refine .inRet ?_|refine .off rfl rfl ?_|refine .offU rfl rfl rfl ?_|(apply W.y rfl rfl;first|exact .move rfl|exact .assign rfl|exact .fieldC rfl|exact .loadW rfl (by (first|apply Ld.oneC|apply Ld.two|apply Ld.three|apply Ld.four|apply Ld.five);repeat(first|assumption|exact Row.cell (by assumption) (by first|rfl|assumption)))|exact .nilCheck rfl|exact .lenC rfl|exact .lenStrC rfl|exact .extract rfl rfl|exact .not rfl|exact .pickT rfl rfl|exact .pickF rfl rfl|exact .buildC rfl rfl|exact .indexC _ rfl rfl rfl (by omega)|exact .indexC 0 rfl rfl rfl (by omega)|exact .indexC 1 rfl rfl rfl (by omega)|exact .indexC 2 rfl rfl rfl (by omega)|exact .indexArrC _ rfl rfl rfl (by omega)|exact .indexArrC 0 rfl rfl rfl (by omega)|exact .indexArrC 1 rfl rfl rfl (by omega)|exact .indexArrC 2 rfl rfl rfl (by omega)|exact .add _ rfl rfl (wrap_i64 (by omega))|exact .sub _ rfl rfl (wrap_i64 (by omega))|exact .rem _ rfl rfl (by decide) (Int.tmod_eq_emod_of_nonneg (by omega))|exact .cmpT rfl rfl rfl (by unfold cmpP;omega)|exact .cmpF rfl rfl rfl (by unfold cmpP;omega)|fail)|fail)
    refine W.y rfl rfl (Y.cutLo (es.length - 12) rfl rfl (by omega) (by omega)) ?_
    (repeat first|refine .seq ?_|refine .region ?_|refine .block ?_|refine .skip ?_|refine .ret ?_|refine .exit ?_|refine .yes rfl ?_|refine .no rfl ?_|refine .nil ?_|refine .go ?_|refine .thenExit ?_|refine .thenRet ?_|refine .inExit ?_|refine .outExit rfl ?_|refine .inNormal ?_|refine .inRet ?_|refine .off rfl rfl ?_|refine .offU rfl rfl rfl ?_|(apply W.y rfl rfl;first|exact .move rfl|exact .assign rfl|exact .fieldC rfl|exact .loadW rfl (by (first|apply Ld.oneC|apply Ld.two|apply Ld.three|apply Ld.four|apply Ld.five);repeat(first|assumption|exact Row.cell (by assumption) (by first|rfl|assumption)))|exact .nilCheck rfl|exact .lenC rfl|exact .lenStrC rfl|exact .extract rfl rfl|exact .not rfl|exact .pickT rfl rfl|exact .pickF rfl rfl|exact .buildC rfl rfl|exact .indexC _ rfl rfl rfl (by omega)|exact .indexC 0 rfl rfl rfl (by omega)|exact .indexC 1 rfl rfl rfl (by omega)|exact .indexC 2 rfl rfl rfl (by omega)|exact .indexArrC _ rfl rfl rfl (by omega)|exact .indexArrC 0 rfl rfl rfl (by omega)|exact .indexArrC 1 rfl rfl rfl (by omega)|exact .indexArrC 2 rfl rfl rfl (by omega)|exact .add _ rfl rfl (wrap_i64 (by omega))|exact .sub _ rfl rfl (wrap_i64 (by omega))|exact .rem _ rfl rfl (by decide) (Int.tmod_eq_emod_of_nonneg (by omega))|exact .cmpT rfl rfl rfl (by unfold cmpP;omega)|exact .cmpF rfl rfl rfl (by unfold cmpP;omega)|fail)|fail)
    refine W.st0 rfl (St.storeC rfl rfl rfl h2 (by simp [Value.cells]) (one1 rfl)) (fun v5 w5 h5 => ?_)
    have r5 : Row w5 b2 49 [.int .i64 last, .slice (some ⟨bb, if c = es.length - 12 then o else o + (es.length - 12) * 3, none⟩) (es.length - (es.length - 12)) (c - (es.length - 12))] := h5.row
    have hE5 : Entries G w5 _ _ := Entries.keep h5.keep (fun k hk e => (hG k hk).1 e) (Sl.cutLo (es.length - 12) hE (by omega))
    have h45 := h4.keep h5.keep hne
    generalize hv : (Value.slice (some ⟨bb, if c = es.length - 12 then o else o + (es.length - 12) * 3, none⟩) (es.length - (es.length - 12)) (c - (es.length - 12))) = v5 at *
    have hone : v5.oneCell' = true := by rw [← hv]; rfl
    have p0 := r5.cell (j := 0) rfl
    have p1 := r5.cell (j := 1) rfl
    clear q0 q1 he
    (repeat first|refine .seq ?_|refine .region ?_|refine .block ?_|refine .skip ?_|refine .ret ?_|refine .exit ?_|refine .yes rfl ?_|refine .no rfl ?_|refine .nil ?_|refine .go ?_|refine .thenExit ?_|refine .thenRet ?_|refine .inExit ?_|refine .outExit rfl ?_|refine .inNormal ?_|refine .inRet ?_|refine .off rfl rfl ?_|refine .offU rfl rfl rfl ?_|(apply W.y rfl rfl;first|exact .move rfl|exact .assign rfl|exact .fieldC rfl|exact .loadW rfl (by (first|apply Ld.oneC|apply Ld.two|apply Ld.three|apply Ld.four|apply Ld.five);repeat(first|assumption|exact Row.cell (by assumption) (by first|rfl|assumption)))|exact .nilCheck rfl|exact .lenC rfl|exact .lenStrC rfl|exact .extract rfl rfl|exact .not rfl|exact .pickT rfl rfl|exact .pickF rfl rfl|exact .buildC rfl rfl|exact .indexC _ rfl rfl rfl (by omega)|exact .indexC 0 rfl rfl rfl (by omega)|exact .indexC 1 rfl rfl rfl (by omega)|exact .indexC 2 rfl rfl rfl (by omega)|exact .indexArrC _ rfl rfl rfl (by omega)|exact .indexArrC 0 rfl rfl rfl (by omega)|exact .indexArrC 1 rfl rfl rfl (by omega)|exact .indexArrC 2 rfl rfl rfl (by omega)|exact .add _ rfl rfl (wrap_i64 (by omega))|exact .sub _ rfl rfl (wrap_i64 (by omega))|exact .rem _ rfl rfl (by decide) (Int.tmod_eq_emod_of_nonneg (by omega))|exact .cmpT rfl rfl rfl (by unfold cmpP;omega)|exact .cmpF rfl rfl rfl (by unfold cmpP;omega)|fail)|fail)
    refine W.st0 rfl (St.storeC rfl rfl rfl h45 (by simp [Value.cells]) (one2 rfl hone)) (fun v6 w6 h6 => ?_)
    have r6 : Row w6 b4 49 [.int .i64 last, v5] := h6.row
    (repeat first|refine .seq ?_|refine .region ?_|refine .block ?_|refine .skip ?_|refine .ret ?_|refine .exit ?_|refine .yes rfl ?_|refine .no rfl ?_|refine .nil ?_|refine .go ?_|refine .thenExit ?_|refine .thenRet ?_|refine .inExit ?_|refine .outExit rfl ?_|refine .inNormal ?_|refine .inRet ?_|refine .off rfl rfl ?_|refine .offU rfl rfl rfl ?_|(apply W.y rfl rfl;first|exact .move rfl|exact .assign rfl|exact .fieldC rfl|exact .loadW rfl (by (first|apply Ld.oneC|apply Ld.two|apply Ld.three|apply Ld.four|apply Ld.five);repeat(first|assumption|exact Row.cell (by assumption) (by first|rfl|assumption)))|exact .nilCheck rfl|exact .lenC rfl|exact .lenStrC rfl|exact .extract rfl rfl|exact .not rfl|exact .pickT rfl rfl|exact .pickF rfl rfl|exact .buildC rfl rfl|exact .indexC _ rfl rfl rfl (by omega)|exact .indexC 0 rfl rfl rfl (by omega)|exact .indexC 1 rfl rfl rfl (by omega)|exact .indexC 2 rfl rfl rfl (by omega)|exact .indexArrC _ rfl rfl rfl (by omega)|exact .indexArrC 0 rfl rfl rfl (by omega)|exact .indexArrC 1 rfl rfl rfl (by omega)|exact .indexArrC 2 rfl rfl rfl (by omega)|exact .add _ rfl rfl (wrap_i64 (by omega))|exact .sub _ rfl rfl (wrap_i64 (by omega))|exact .rem _ rfl rfl (by decide) (Int.tmod_eq_emod_of_nonneg (by omega))|exact .cmpT rfl rfl rfl (by unfold cmpP;omega)|exact .cmpF rfl rfl rfl (by unfold cmpP;omega)|fail)|fail)
    exact E.endR _ ⟨rfl, _, rfl, r6, hE5.keep h6.keep (fun k hk e => (hG k hk).2 e), h5.keep.trans h6.keep (fun k _ h => h)⟩ ⟨rfl, rfl, trivial⟩
  · rw [if_neg h12]
    (repeat first|refine .seq ?_|refine .region ?_|refine .block ?_|refine .skip ?_|refine .ret ?_|refine .exit ?_|refine .yes rfl ?_|refine .no rfl ?_|refine .nil ?_|refine .go ?_|refine .thenExit ?_|refine .thenRet ?_|refine .inExit ?_|refine .outExit rfl ?_|refine .inNormal ?_|refine .inRet ?_|refine .off rfl rfl ?_|refine .offU rfl rfl rfl ?_|(apply W.y rfl rfl;first|exact .move rfl|exact .assign rfl|exact .fieldC rfl|exact .loadW rfl (by (first|apply Ld.oneC|apply Ld.two|apply Ld.three|apply Ld.four|apply Ld.five);repeat(first|assumption|exact Row.cell (by assumption) (by first|rfl|assumption)))|exact .nilCheck rfl|exact .lenC rfl|exact .lenStrC rfl|exact .extract rfl rfl|exact .not rfl|exact .pickT rfl rfl|exact .pickF rfl rfl|exact .buildC rfl rfl|exact .indexC _ rfl rfl rfl (by omega)|exact .indexC 0 rfl rfl rfl (by omega)|exact .indexC 1 rfl rfl rfl (by omega)|exact .indexC 2 rfl rfl rfl (by omega)|exact .indexArrC _ rfl rfl rfl (by omega)|exact .indexArrC 0 rfl rfl rfl (by omega)|exact .indexArrC 1 rfl rfl rfl (by omega)|exact .indexArrC 2 rfl rfl rfl (by omega)|exact .add _ rfl rfl (wrap_i64 (by omega))|exact .sub _ rfl rfl (wrap_i64 (by omega))|exact .rem _ rfl rfl (by decide) (Int.tmod_eq_emod_of_nonneg (by omega))|exact .cmpT rfl rfl rfl (by unfold cmpP;omega)|exact .cmpF rfl rfl rfl (by unfold cmpP;omega)|fail)|fail)
    refine W.st0 rfl (St.storeC rfl rfl rfl h4 (by simp [Value.cells]) (one2 rfl rfl)) (fun v6 w6 h6 => ?_)
    have r6 : Row w6 b4 49 [.int .i64 last, .slice A es.length c] := h6.row
    (repeat first|refine .seq ?_|refine .region ?_|refine .block ?_|refine .skip ?_|refine .ret ?_|refine .exit ?_|refine .yes rfl ?_|refine .no rfl ?_|refine .nil ?_|refine .go ?_|refine .thenExit ?_|refine .thenRet ?_|refine .inExit ?_|refine .outExit rfl ?_|refine .inNormal ?_|refine .inRet ?_|refine .off rfl rfl ?_|refine .offU rfl rfl rfl ?_|(apply W.y rfl rfl;first|exact .move rfl|exact .assign rfl|exact .fieldC rfl|exact .loadW rfl (by (first|apply Ld.oneC|apply Ld.two|apply Ld.three|apply Ld.four|apply Ld.five);repeat(first|assumption|exact Row.cell (by assumption) (by first|rfl|assumption)))|exact .nilCheck rfl|exact .lenC rfl|exact .lenStrC rfl|exact .extract rfl rfl|exact .not rfl|exact .pickT rfl rfl|exact .pickF rfl rfl|exact .buildC rfl rfl|exact .indexC _ rfl rfl rfl (by omega)|exact .indexC 0 rfl rfl rfl (by omega)|exact .indexC 1 rfl rfl rfl (by omega)|exact .indexC 2 rfl rfl rfl (by omega)|exact .indexArrC _ rfl rfl rfl (by omega)|exact .indexArrC 0 rfl rfl rfl (by omega)|exact .indexArrC 1 rfl rfl rfl (by omega)|exact .indexArrC 2 rfl rfl rfl (by omega)|exact .add _ rfl rfl (wrap_i64 (by omega))|exact .sub _ rfl rfl (wrap_i64 (by omega))|exact .rem _ rfl rfl (by decide) (Int.tmod_eq_emod_of_nonneg (by omega))|exact .cmpT rfl rfl rfl (by unfold cmpP;omega)|exact .cmpF rfl rfl rfl (by unfold cmpP;omega)|fail)|fail)
    exact E.endR _ ⟨rfl, _, rfl, r6, hE.keep h6.keep (fun k hk e => (hG k hk).2 e), h6.keep.mono (fun k _ h => .inr h)⟩ ⟨rfl, rfl, trivial⟩
theorem St.appendEs {nn : Nat} {L : FL} {w : World} {ty : TypeId} {s x : Operand} {v v2 : Value} (base : Nat) {G : Nat → Prop} {es : List (Int × Delta)} {m : Nat} {cs : List Value} (hs : ev L s = some v) (hx : ev L x = some v2) (hown : w.ownsRow base 70 3 v m cs) (hE : Entries G w v2 es) (hm : m ≤ 100) (hn : es.length ≤ 100) (hbase : base ≤ w.heap.size) :
    St Try.prog nn L w (.call { callee := .builtin .append, args := #[s, x], argTypes := #[43, 43] }) ty (fun v' w' => ∃ ns, w'.ownsRow base 70 3 v' (m + es.length) (cs ++ ns) ∧ ns.length = es.length * 3 ∧ (∀ i x, es[i]? = some x → REntry G w ((ns.drop (i * 3)).take 3) x) ∧ Keep (fun k => some k = v.ownBlock) w w' ∧ (v'.ownBlock = v.ownBlock ∨ v'.ownBlock = some w.heap.size)) := by
  obtain ⟨A, c, rfl, hc, hnn, hb1, he1⟩ := id hE
  by_cases h0 : es.length = 0
  · have e0 : es = [] := List.eq_nil_of_length_eq_zero h0
    subst e0
    have hmc : ∃ A' c', v = .slice A' m c' ∧ m ≤ c' := by
      rcases hown.2 with ⟨e1, e2⟩ | ⟨g, cap, cur, rfl, hg, hh, hcap, r⟩
      · exact ⟨none, 0, by rw [e1, e2], by omega⟩
      · exact ⟨_, cap, rfl, hcap⟩
    obtain ⟨A', c', rfl, hmc⟩ := hmc
    refine (St.ofY (Y.appendNoneC hs hx hmc)).imp (fun v' w' h => ?_)
    obtain ⟨rfl, rfl⟩ := h
    exact ⟨[], by simpa using hown, rfl, fun i x hi => by simp at hi, Keep.refl _ _, .inl rfl⟩
  · obtain ⟨b', o', ns, e1, hFb, hln, hcs, hone, hR⟩ := Sl.flat hE (by omega) (fun cs x h => rentry_one h)
    cases e1
    refine (St.appendC base ns hs hx hown hcs hln hone (by omega) hbase).imp (fun v' w' h => ?_)
    exact ⟨ns, h.1, hln, hR, h.2.1, h.2.2⟩
end Go.Proofs.Ytkehmehodgcdfaa
