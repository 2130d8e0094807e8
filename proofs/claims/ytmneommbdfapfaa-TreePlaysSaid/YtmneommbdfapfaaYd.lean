/- Bytes that are written over: one, all of a slice's, all of pairs'. -/
import Derived.Test.YtmneommbdfapfaaYc
namespace Go.Proofs.Ytmneommbdfapfaa
open Vb Go.RowKit

theorem Row.cell_lt {w : World} {b : Nat} {t : TypeId} {cs : List Value} (h : Row w b t cs) {j : Nat} {v : Value} (hc : w.cell? ⟨b, j, none⟩ = some v) : cs[j]? = some v := by
  simpa [World.cell?, (show w.heap[b]? = _ from h)] using hc
/-- n bytes, whatever they are. -/
def BL (F : Nat → Prop) (w : World) (v : Value) (n : Nat) : Prop := ∃ xs : Bs, xs.length = n ∧ Bytes F w v xs
/-- A byte of block b is written over. -/
structure Poke (w w' : World) (b : Nat) : Prop where
  keep : Keep (fun k => k = b) w w'
  writ : Writ w' b
  cell : ∀ off v, w.cell? ⟨b, off, none⟩ = some v → w'.cell? ⟨b, off, none⟩ = some v ∨ ∃ y : UInt8, w'.cell? ⟨b, off, none⟩ = some (byteV y)
theorem Poke.of_put {w w' : World} {b : Nat} {t : TypeId} {cs : List Value} {off : Nat} {y : UInt8} (hr : Row w b t cs) (h : Put w w' b t (splice cs off [byteV y])) (hl : off + 1 ≤ cs.length) : Poke w w' b := by
  refine ⟨h.keep, ⟨_, _, h.row⟩, fun o v hc => ?_⟩
  have h1 := Row.cell_lt hr hc
  by_cases e : o = off
  · subst e
    refine .inr ⟨y, h.row.cell ?_⟩
    rw [splice_get (by simpa using hl), if_pos ⟨Nat.le_refl _, by simp⟩]
    simp
  · refine .inl (h.row.cell ?_)
    rw [splice_get (by simpa using hl), if_neg (by simp; omega)]
    exact h1
theorem BL.poke {F : Nat → Prop} {w w' : World} {b : Nat} (hp : Poke w w' b) {v : Value} {n : Nat} (h : BL F w v n) : BL F w' v n := by
  obtain ⟨xs, rfl, h⟩ := h
  obtain ⟨A, c, hv, hc, hn, hb, he⟩ := h.open_
  have key : ∀ i : Nat, ∃ y : UInt8, i < xs.length → ∃ b' o, A = some ⟨b', o, none⟩ ∧ F b' ∧ w'.cell? ⟨b', o + i * 1, none⟩ = some (byteV y) := fun i => by
    by_cases hi : i < xs.length
    · obtain ⟨b', o, cs, h1, h2, h3, h4, h5⟩ := he i hi
      have h6 : w.cell? ⟨b', o + i * 1, none⟩ = some (byteV xs[i]) := by
        have e : cs = [byteV xs[i]] := h5
        subst e
        exact h4 0 _ rfl
      by_cases e : b' = b
      · subst e
        rcases hp.cell _ _ h6 with h7 | ⟨y, h7⟩
        · exact ⟨_, fun _ => ⟨b', o, h1, h2, h7⟩⟩
        · exact ⟨y, fun _ => ⟨b', o, h1, h2, h7⟩⟩
      · exact ⟨_, fun _ => ⟨b', o, h1, h2, hp.keep.cell h6 e⟩⟩
    · exact ⟨0, fun h => absurd h hi⟩
  obtain ⟨g, hg⟩ := Classical.axiomOfChoice key
  have hl : ((List.range xs.length).map g).length = xs.length := by simp
  refine ⟨(List.range xs.length).map g, hl, A, c, by rw [hl]; exact hv, by rw [hl]; exact hc, hn, by rw [hl]; exact hb, fun i x hi => ?_⟩
  have hil : i < xs.length := by have := (List.getElem?_eq_some_iff.1 hi).1; rw [hl] at this; exact this
  have hx : x = g i := by simpa [hil] using hi.symm
  subst hx
  obtain ⟨b', o, h1, h2, h3⟩ := hg i hil
  refine ⟨b', o, [byteV (g i)], h1, h2, rfl, fun j v hj => ?_, rfl⟩
  have hj0 : j = 0 := by have := (List.getElem?_eq_some_iff.1 hj).1; simpa using this
  subst hj0
  simp only [List.getElem?_cons_zero, Option.some.injEq] at hj
  subst hj
  exact h3
/-- A byte to be written over. -/
theorem BL.at_ {F : Nat → Prop} {w : World} {v : Value} {n : Nat} (h : BL F w v n) {i : Nat} (hi : i < n) (hW : ∀ k, F k → Writ w k) :
    ∃ b o c x t cs, v = .slice (some ⟨b, o, none⟩) n c ∧ F b ∧ w.cell? ⟨b, o + i * 1, none⟩ = some (byteV x) ∧ Row w b t cs ∧ o + i * 1 + 1 ≤ cs.length := by
  obtain ⟨xs, rfl, h⟩ := h
  obtain ⟨A, c, rfl, hc, hn, hb, he⟩ := h.open_
  obtain ⟨b', o, cs, rfl, h2, h3, h4, h5⟩ := he i hi
  have h6 : w.cell? ⟨b', o + i * 1, none⟩ = some (byteV xs[i]) := by
    have e : cs = [byteV xs[i]] := h5
    subst e
    exact h4 0 _ rfl
  obtain ⟨t, ds, hr⟩ := hW b' h2
  have h7 := (List.getElem?_eq_some_iff.1 (Row.cell_lt hr h6)).1
  exact ⟨b', o, c, _, t, ds, rfl, h2, h6, hr, h7⟩
theorem BL.shape {F : Nat → Prop} {w : World} {v : Value} {n : Nat} (h : BL F w v n) : ∃ A c, v = .slice A n c := by
  obtain ⟨xs, rfl, A, c, rfl, _⟩ := h
  exact ⟨A, c, rfl⟩
theorem BL.len {F : Nat → Prop} {w : World} {v : Value} {n : Nat} (h : BL F w v n) : n ≤ 140737488351232 := by
  obtain ⟨xs, rfl, h⟩ := h
  have := h.len
  omega
def succ8 (x : UInt8) : UInt8 := UInt8.ofNat ((x.toNat + 1) % 256)
theorem wrap_succ8 (x : UInt8) : IntKind.u8.wrap ((x.toNat : Int) + 1) = ((succ8 x).toNat : Int) := by
  rw [wrap_u8, succ8, byte_nat _ (Nat.mod_lt _ (by decide))]
  omega
theorem writ_poke {F : Nat → Prop} {w w' : World} {b : Nat} (hp : Poke w w' b) (hW : ∀ k, F k → Writ w k) : ∀ k, F k → Writ w' k := fun k hk => by
  by_cases e : k = b
  · subst e; exact hp.writ
  · exact (hW k hk).keep hp.keep e
theorem poke_keep {F : Nat → Prop} {w0 w w' : World} {b : Nat} (h : Keep F w0 w) (hp : Poke w w' b) (hb : F b) : Keep F w0 w' := h.then (hp.keep.mono (fun k _ e => by have e' : k = b := e; exact e' ▸ hb))

/-! ### Pairs -/
def RBL (F : Nat → Prop) : World → List Value → Nat × Nat → Prop := fun w cs p => ∃ va vb, cs = [va, vb] ∧ BL F w va p.1 ∧ BL F w vb p.2
theorem RBL.poke {F : Nat → Prop} {w w' : World} {b : Nat} (hp : Poke w w' b) {cs : List Value} {p : Nat × Nat} (h : RBL F w cs p) : RBL F w' cs p := by
  obtain ⟨va, vb, h1, h2, h3⟩ := h
  exact ⟨va, vb, h1, h2.poke hp, h3.poke hp⟩
theorem slRBL_poke {br F : Nat → Prop} {w w' : World} {b : Nat} (hp : Poke w w' b) (hb : ¬ br b) {v : Value} {ns : List (Nat × Nat)} (h : Sl br 2 48 (RBL F) w v ns) : Sl br 2 48 (RBL F) w' v ns :=
  Sl.upR hp.keep (fun k hk e => by have e' : k = b := e; exact hb (e' ▸ hk)) (fun _ _ h => RBL.poke hp h) h

set_option maxHeartbeats 3200000 in
theorem spoil_spec (br F : Nat → Prop) (v : Value) (ns : List (Nat × Nat)) (w : World) (h : Sl br 2 48 (RBL F) w v ns) (hW : ∀ k, F k → Writ w k) (hd : ∀ k, F k → ¬ br k) :
    Meets Try.prog 37 #[v] w (fun r w' => Keep F w w') := by
  obtain ⟨A, c, rfl, hc, hn, hb, _⟩ := id h
  refine Meets.enter Try.func37 Try.ntmps37 rfl rfl ?_
  (repeat first|refine .seq ?_|refine .region ?_|refine .block ?_|refine .skip ?_|refine .ret ?_|refine .exit ?_|refine .yes rfl ?_|refine .no rfl ?_|refine .nil ?_|refine .go ?_|refine .thenExit ?_|refine .thenRet ?_|refine .inExit ?_|refine .outExit rfl ?_|refine .inNormal ?_|refine .inRet ?_|refine .off rfl rfl ?_|refine .offU rfl rfl rfl ?_|(apply W.y rfl rfl;first|exact .move rfl|exact .assign rfl|exact .fieldC rfl|exact .loadW rfl (by (first|apply Ld.oneC|apply Ld.two|apply Ld.three|apply Ld.four|apply Ld.five);repeat(first|assumption|exact Row.cell (by assumption) (by first|rfl|assumption)))|exact .nilCheck rfl|exact .lenC rfl|exact .lenStrC rfl|exact .extract rfl rfl|exact .not rfl|exact .pickT rfl rfl|exact .pickF rfl rfl|exact .buildC rfl rfl|exact .indexC _ rfl rfl rfl (by omega)|exact .indexC 0 rfl rfl rfl (by omega)|exact .indexC 1 rfl rfl rfl (by omega)|exact .indexC 2 rfl rfl rfl (by omega)|exact .indexArrC _ rfl rfl rfl (by omega)|exact .indexArrC 0 rfl rfl rfl (by omega)|exact .indexArrC 1 rfl rfl rfl (by omega)|exact .indexArrC 2 rfl rfl rfl (by omega)|exact .add _ rfl rfl (wrap_i64 (by omega))|exact .sub _ rfl rfl (wrap_i64 (by omega))|exact .rem _ rfl rfl (by decide) (Int.tmod_eq_emod_of_nonneg (by omega))|exact .cmpT rfl rfl rfl (by unfold cmpP;omega)|exact .cmpF rfl rfl rfl (by unfold cmpP;omega)|fail)|fail)
  refine C.loop (fun m L w' => ∃ (i : Nat), L = [(0, .slice A ns.length c), (5, .slice A ns.length c), (6, .int .i64 ns.length), (7, .int .i64 i)] ∧ m = ns.length - i ∧ i ≤ ns.length ∧ Sl br 2 48 (RBL F) w' (.slice A ns.length c) ns ∧ (∀ k, F k → Writ w' k) ∧ Keep F w w') ns.length _
    ⟨0, rfl, rfl, by omega, h, hW, Keep.refl _ _⟩ ⟨rfl, rfl, rfl, rfl, trivial⟩ ?_
  clear h hW
  rintro m L w1 ⟨i, rfl, rfl, hi, h, hW, k1⟩
  by_cases hlt : i < ns.length
  · obtain ⟨p, hp⟩ : ∃ p, ns[i]? = some p := ⟨_, List.getElem?_eq_getElem hlt⟩
    have helem : ∀ w', Sl br 2 48 (RBL F) w' (.slice A ns.length c) ns → ∃ b o va vb, A = some ⟨b, o, none⟩ ∧ br b ∧ w'.cell? ⟨b, o + i * 2, none⟩ = some va ∧ w'.cell? ⟨b, o + i * 2 + 1, none⟩ = some vb ∧ BL F w' va p.1 ∧ BL F w' vb p.2 := fun w' h' => by
      obtain ⟨A', c', hv', _, _, _, he'⟩ := h'
      simp only [Value.slice.injEq] at hv'
      obtain ⟨rfl, _, rfl⟩ := hv'
      obtain ⟨b, o, cs, h1, h2, h3, h4, va, vb, rfl, h6, h7⟩ := he' i p hp
      exact ⟨b, o, va, vb, h1, h2, h4 0 _ rfl, h4 1 _ rfl, h6, h7⟩
    obtain ⟨bp, op, va, vb, rfl, hbr, q0, q1, hva, hvb⟩ := helem w1 h
    have hlen1 := hva.len
    have hlen2 := hvb.len
    obtain ⟨Aa, ca, rfl⟩ := hva.shape
    obtain ⟨Ab, cb, rfl⟩ := hvb.shape
    (repeat first|refine .seq ?_|refine .region ?_|refine .block ?_|refine .skip ?_|refine .ret ?_|refine .exit ?_|refine .yes rfl ?_|refine .no rfl ?_|refine .nil ?_|refine .go ?_|refine .thenExit ?_|refine .thenRet ?_|refine .inExit ?_|refine .outExit rfl ?_|refine .inNormal ?_|refine .inRet ?_|refine .off rfl rfl ?_|refine .offU rfl rfl rfl ?_|(apply W.y rfl rfl;first|exact .move rfl|exact .assign rfl|exact .fieldC rfl|exact .loadW rfl (by (first|apply Ld.oneC|apply Ld.two|apply Ld.three|apply Ld.four|apply Ld.five);repeat(first|assumption|exact Row.cell (by assumption) (by first|rfl|assumption)))|exact .nilCheck rfl|exact .lenC rfl|exact .lenStrC rfl|exact .extract rfl rfl|exact .not rfl|exact .pickT rfl rfl|exact .pickF rfl rfl|exact .buildC rfl rfl|exact .indexC _ rfl rfl rfl (by omega)|exact .indexC 0 rfl rfl rfl (by omega)|exact .indexC 1 rfl rfl rfl (by omega)|exact .indexC 2 rfl rfl rfl (by omega)|exact .indexArrC _ rfl rfl rfl (by omega)|exact .indexArrC 0 rfl rfl rfl (by omega)|exact .indexArrC 1 rfl rfl rfl (by omega)|exact .indexArrC 2 rfl rfl rfl (by omega)|exact .add _ rfl rfl (wrap_i64 (by omega))|exact .sub _ rfl rfl (wrap_i64 (by omega))|exact .rem _ rfl rfl (by decide) (Int.tmod_eq_emod_of_nonneg (by omega))|exact .cmpT rfl rfl rfl (by unfold cmpP;omega)|exact .cmpF rfl rfl rfl (by unfold cmpP;omega)|fail)|fail)
    refine C.loop (fun m L w' => ∃ (j : Nat), L = [(0, .slice (some ⟨bp, op, none⟩) ns.length c), (2, .int .i64 i), (5, .slice (some ⟨bp, op, none⟩) ns.length c), (6, .int .i64 ns.length), (7, .int .i64 i), (15, .int .i64 p.1), (16, .int .i64 j)] ∧ m = p.1 - j ∧ j ≤ p.1 ∧ Sl br 2 48 (RBL F) w' (.slice (some ⟨bp, op, none⟩) ns.length c) ns ∧ (∀ k, F k → Writ w' k) ∧ Keep F w w') p.1 _
      ⟨0, rfl, rfl, by omega, h, hW, k1⟩ ⟨rfl, rfl, rfl, rfl, rfl, rfl, rfl, trivial⟩ ?_
    clear q0 q1 hva hvb h hW k1
    rintro m L w2 ⟨j, rfl, rfl, hj, h, hW, k2⟩
    by_cases hjl : j < p.1
    · obtain ⟨bp', op', va, vb, e, hbr', q0, q1, hva, hvb⟩ := helem w2 h
      cases e
      obtain ⟨b, o, cc, x, t, cs, rfl, hFb, q2, hr, hl⟩ := hva.at_ hjl hW
      (repeat first|refine .seq ?_|refine .region ?_|refine .block ?_|refine .skip ?_|refine .ret ?_|refine .exit ?_|refine .yes rfl ?_|refine .no rfl ?_|refine .nil ?_|refine .go ?_|refine .thenExit ?_|refine .thenRet ?_|refine .inExit ?_|refine .outExit rfl ?_|refine .inNormal ?_|refine .inRet ?_|refine .off rfl rfl ?_|refine .offU rfl rfl rfl ?_|(apply W.y rfl rfl;first|exact .move rfl|exact .assign rfl|exact .fieldC rfl|exact .loadW rfl (by (first|apply Ld.oneC|apply Ld.two|apply Ld.three|apply Ld.four|apply Ld.five);repeat(first|assumption|exact Row.cell (by assumption) (by first|rfl|assumption)))|exact .nilCheck rfl|exact .lenC rfl|exact .lenStrC rfl|exact .extract rfl rfl|exact .not rfl|exact .pickT rfl rfl|exact .pickF rfl rfl|exact .buildC rfl rfl|exact .indexC _ rfl rfl rfl (by omega)|exact .indexC 0 rfl rfl rfl (by omega)|exact .indexC 1 rfl rfl rfl (by omega)|exact .indexC 2 rfl rfl rfl (by omega)|exact .indexArrC _ rfl rfl rfl (by omega)|exact .indexArrC 0 rfl rfl rfl (by omega)|exact .indexArrC 1 rfl rfl rfl (by omega)|exact .indexArrC 2 rfl rfl rfl (by omega)|exact .add _ rfl rfl (wrap_i64 (by omega))|exact .sub _ rfl rfl (wrap_i64 (by omega))|exact .rem _ rfl rfl (by decide) (Int.tmod_eq_emod_of_nonneg (by omega))|exact .cmpT rfl rfl rfl (by unfold cmpP;omega)|exact .cmpF rfl rfl rfl (by unfold cmpP;omega)|fail)|fail)
      refine W.y rfl rfl (Y.add ((succ8 x).toNat : Int) rfl rfl (wrap_succ8 x)) ?_
      (repeat first|refine .seq ?_|refine .region ?_|refine .block ?_|refine .skip ?_|refine .ret ?_|refine .exit ?_|refine .yes rfl ?_|refine .no rfl ?_|refine .nil ?_|refine .go ?_|refine .thenExit ?_|refine .thenRet ?_|refine .inExit ?_|refine .outExit rfl ?_|refine .inNormal ?_|refine .inRet ?_|refine .off rfl rfl ?_|refine .offU rfl rfl rfl ?_|(apply W.y rfl rfl;first|exact .move rfl|exact .assign rfl|exact .fieldC rfl|exact .loadW rfl (by (first|apply Ld.oneC|apply Ld.two|apply Ld.three|apply Ld.four|apply Ld.five);repeat(first|assumption|exact Row.cell (by assumption) (by first|rfl|assumption)))|exact .nilCheck rfl|exact .lenC rfl|exact .lenStrC rfl|exact .extract rfl rfl|exact .not rfl|exact .pickT rfl rfl|exact .pickF rfl rfl|exact .buildC rfl rfl|exact .indexC _ rfl rfl rfl (by omega)|exact .indexC 0 rfl rfl rfl (by omega)|exact .indexC 1 rfl rfl rfl (by omega)|exact .indexC 2 rfl rfl rfl (by omega)|exact .indexArrC _ rfl rfl rfl (by omega)|exact .indexArrC 0 rfl rfl rfl (by omega)|exact .indexArrC 1 rfl rfl rfl (by omega)|exact .indexArrC 2 rfl rfl rfl (by omega)|exact .add _ rfl rfl (wrap_i64 (by omega))|exact .sub _ rfl rfl (wrap_i64 (by omega))|exact .rem _ rfl rfl (by decide) (Int.tmod_eq_emod_of_nonneg (by omega))|exact .cmpT rfl rfl rfl (by unfold cmpP;omega)|exact .cmpF rfl rfl rfl (by unfold cmpP;omega)|fail)|fail)
      refine W.st0 rfl (St.storeC rfl rfl rfl hr (by simp [Value.cells]; omega) (one1 rfl)) (fun v3 w3 h3 => ?_)
      have hpk : Poke w2 w3 b := Poke.of_put hr h3 hl
      (repeat first|refine .seq ?_|refine .region ?_|refine .block ?_|refine .skip ?_|refine .ret ?_|refine .exit ?_|refine .yes rfl ?_|refine .no rfl ?_|refine .nil ?_|refine .go ?_|refine .thenExit ?_|refine .thenRet ?_|refine .inExit ?_|refine .outExit rfl ?_|refine .inNormal ?_|refine .inRet ?_|refine .off rfl rfl ?_|refine .offU rfl rfl rfl ?_|(apply W.y rfl rfl;first|exact .move rfl|exact .assign rfl|exact .fieldC rfl|exact .loadW rfl (by (first|apply Ld.oneC|apply Ld.two|apply Ld.three|apply Ld.four|apply Ld.five);repeat(first|assumption|exact Row.cell (by assumption) (by first|rfl|assumption)))|exact .nilCheck rfl|exact .lenC rfl|exact .lenStrC rfl|exact .extract rfl rfl|exact .not rfl|exact .pickT rfl rfl|exact .pickF rfl rfl|exact .buildC rfl rfl|exact .indexC _ rfl rfl rfl (by omega)|exact .indexC 0 rfl rfl rfl (by omega)|exact .indexC 1 rfl rfl rfl (by omega)|exact .indexC 2 rfl rfl rfl (by omega)|exact .indexArrC _ rfl rfl rfl (by omega)|exact .indexArrC 0 rfl rfl rfl (by omega)|exact .indexArrC 1 rfl rfl rfl (by omega)|exact .indexArrC 2 rfl rfl rfl (by omega)|exact .add _ rfl rfl (wrap_i64 (by omega))|exact .sub _ rfl rfl (wrap_i64 (by omega))|exact .rem _ rfl rfl (by decide) (Int.tmod_eq_emod_of_nonneg (by omega))|exact .cmpT rfl rfl rfl (by unfold cmpP;omega)|exact .cmpF rfl rfl rfl (by unfold cmpP;omega)|fail)|fail)
      exact E.again _ _ (by omega) ⟨j + 1, rfl, rfl, by omega, slRBL_poke hpk (hd b hFb) h, writ_poke hpk hW, poke_keep k2 hpk hFb⟩ ⟨rfl, rfl, rfl, rfl, rfl, rfl, some_int (by omega), trivial⟩
    · obtain ⟨bp', op', va, vb, e, hbr', q0, q1, hva, hvb⟩ := helem w2 h
      cases e
      obtain ⟨Ab, cb, rfl⟩ := hvb.shape
      (repeat first|refine .seq ?_|refine .region ?_|refine .block ?_|refine .skip ?_|refine .ret ?_|refine .exit ?_|refine .yes rfl ?_|refine .no rfl ?_|refine .nil ?_|refine .go ?_|refine .thenExit ?_|refine .thenRet ?_|refine .inExit ?_|refine .outExit rfl ?_|refine .inNormal ?_|refine .inRet ?_|refine .off rfl rfl ?_|refine .offU rfl rfl rfl ?_|(apply W.y rfl rfl;first|exact .move rfl|exact .assign rfl|exact .fieldC rfl|exact .loadW rfl (by (first|apply Ld.oneC|apply Ld.two|apply Ld.three|apply Ld.four|apply Ld.five);repeat(first|assumption|exact Row.cell (by assumption) (by first|rfl|assumption)))|exact .nilCheck rfl|exact .lenC rfl|exact .lenStrC rfl|exact .extract rfl rfl|exact .not rfl|exact .pickT rfl rfl|exact .pickF rfl rfl|exact .buildC rfl rfl|exact .indexC _ rfl rfl rfl (by omega)|exact .indexC 0 rfl rfl rfl (by omega)|exact .indexC 1 rfl rfl rfl (by omega)|exact .indexC 2 rfl rfl rfl (by omega)|exact .indexArrC _ rfl rfl rfl (by omega)|exact .indexArrC 0 rfl rfl rfl (by omega)|exact .indexArrC 1 rfl rfl rfl (by omega)|exact .indexArrC 2 rfl rfl rfl (by omega)|exact .add _ rfl rfl (wrap_i64 (by omega))|exact .sub _ rfl rfl (wrap_i64 (by omega))|exact .rem _ rfl rfl (by decide) (Int.tmod_eq_emod_of_nonneg (by omega))|exact .cmpT rfl rfl rfl (by unfold cmpP;omega)|exact .cmpF rfl rfl rfl (by unfold cmpP;omega)|fail)|fail)
      refine C.loop (fun m L w' => ∃ (j : Nat), L = [(0, .slice (some ⟨bp, op, none⟩) ns.length c), (2, .int .i64 i), (5, .slice (some ⟨bp, op, none⟩) ns.length c), (6, .int .i64 ns.length), (7, .int .i64 i), (35, .int .i64 p.2), (36, .int .i64 j)] ∧ m = p.2 - j ∧ j ≤ p.2 ∧ Sl br 2 48 (RBL F) w' (.slice (some ⟨bp, op, none⟩) ns.length c) ns ∧ (∀ k, F k → Writ w' k) ∧ Keep F w w') p.2 _
        ⟨0, rfl, rfl, by omega, h, hW, k2⟩ ⟨rfl, rfl, rfl, rfl, rfl, rfl, rfl, trivial⟩ ?_
      clear q0 q1 hva hvb h hW k2 hjl
      rintro m L w4 ⟨j, rfl, rfl, hj, h, hW, k4⟩
      by_cases hjl : j < p.2
      · obtain ⟨bp', op', va, vb, e, hbr', q0, q1, hva, hvb⟩ := helem w4 h
        cases e
        obtain ⟨b, o, cc, x, t, cs, rfl, hFb, q2, hr, hl⟩ := hvb.at_ hjl hW
        (repeat first|refine .seq ?_|refine .region ?_|refine .block ?_|refine .skip ?_|refine .ret ?_|refine .exit ?_|refine .yes rfl ?_|refine .no rfl ?_|refine .nil ?_|refine .go ?_|refine .thenExit ?_|refine .thenRet ?_|refine .inExit ?_|refine .outExit rfl ?_|refine .inNormal ?_|refine .inRet ?_|refine .off rfl rfl ?_|refine .offU rfl rfl rfl ?_|(apply W.y rfl rfl;first|exact .move rfl|exact .assign rfl|exact .fieldC rfl|exact .loadW rfl (by (first|apply Ld.oneC|apply Ld.two|apply Ld.three|apply Ld.four|apply Ld.five);repeat(first|assumption|exact Row.cell (by assumption) (by first|rfl|assumption)))|exact .nilCheck rfl|exact .lenC rfl|exact .lenStrC rfl|exact .extract rfl rfl|exact .not rfl|exact .pickT rfl rfl|exact .pickF rfl rfl|exact .buildC rfl rfl|exact .indexC _ rfl rfl rfl (by omega)|exact .indexC 0 rfl rfl rfl (by omega)|exact .indexC 1 rfl rfl rfl (by omega)|exact .indexC 2 rfl rfl rfl (by omega)|exact .indexArrC _ rfl rfl rfl (by omega)|exact .indexArrC 0 rfl rfl rfl (by omega)|exact .indexArrC 1 rfl rfl rfl (by omega)|exact .indexArrC 2 rfl rfl rfl (by omega)|exact .add _ rfl rfl (wrap_i64 (by omega))|exact .sub _ rfl rfl (wrap_i64 (by omega))|exact .rem _ rfl rfl (by decide) (Int.tmod_eq_emod_of_nonneg (by omega))|exact .cmpT rfl rfl rfl (by unfold cmpP;omega)|exact .cmpF rfl rfl rfl (by unfold cmpP;omega)|fail)|fail)
        refine W.y rfl rfl (Y.add ((succ8 x).toNat : Int) rfl rfl (wrap_succ8 x)) ?_
        (repeat first|refine .seq ?_|refine .region ?_|refine .block ?_|refine .skip ?_|refine .ret ?_|refine .exit ?_|refine .yes rfl ?_|refine .no rfl ?_|refine .nil ?_|refine .go ?_|refine .thenExit ?_|refine .thenRet ?_|refine .inExit ?_|refine .outExit rfl ?_|refine .inNormal ?_|refine .inRet ?_|refine .off rfl rfl ?_|refine .offU rfl rfl rfl ?_|(apply W.y rfl rfl;first|exact .move rfl|exact .assign rfl|exact .fieldC rfl|exact .loadW rfl (by (first|apply Ld.oneC|apply Ld.two|apply Ld.three|apply Ld.four|apply Ld.five);repeat(first|assumption|exact Row.cell (by assumption) (by first|rfl|assumption)))|exact .nilCheck rfl|exact .lenC rfl|exact .lenStrC rfl|exact .extract rfl rfl|exact .not rfl|exact .pickT rfl rfl|exact .pickF rfl rfl|exact .buildC rfl rfl|exact .indexC _ rfl rfl rfl (by omega)|exact .indexC 0 rfl rfl rfl (by omega)|exact .indexC 1 rfl rfl rfl (by omega)|exact .indexC 2 rfl rfl rfl (by omega)|exact .indexArrC _ rfl rfl rfl (by omega)|exact .indexArrC 0 rfl rfl rfl (by omega)|exact .indexArrC 1 rfl rfl rfl (by omega)|exact .indexArrC 2 rfl rfl rfl (by omega)|exact .add _ rfl rfl (wrap_i64 (by omega))|exact .sub _ rfl rfl (wrap_i64 (by omega))|exact .rem _ rfl rfl (by decide) (Int.tmod_eq_emod_of_nonneg (by omega))|exact .cmpT rfl rfl rfl (by unfold cmpP;omega)|exact .cmpF rfl rfl rfl (by unfold cmpP;omega)|fail)|fail)
        refine W.st0 rfl (St.storeC rfl rfl rfl hr (by simp [Value.cells]; omega) (one1 rfl)) (fun v3 w5 h3 => ?_)
        have hpk : Poke w4 w5 b := Poke.of_put hr h3 hl
        (repeat first|refine .seq ?_|refine .region ?_|refine .block ?_|refine .skip ?_|refine .ret ?_|refine .exit ?_|refine .yes rfl ?_|refine .no rfl ?_|refine .nil ?_|refine .go ?_|refine .thenExit ?_|refine .thenRet ?_|refine .inExit ?_|refine .outExit rfl ?_|refine .inNormal ?_|refine .inRet ?_|refine .off rfl rfl ?_|refine .offU rfl rfl rfl ?_|(apply W.y rfl rfl;first|exact .move rfl|exact .assign rfl|exact .fieldC rfl|exact .loadW rfl (by (first|apply Ld.oneC|apply Ld.two|apply Ld.three|apply Ld.four|apply Ld.five);repeat(first|assumption|exact Row.cell (by assumption) (by first|rfl|assumption)))|exact .nilCheck rfl|exact .lenC rfl|exact .lenStrC rfl|exact .extract rfl rfl|exact .not rfl|exact .pickT rfl rfl|exact .pickF rfl rfl|exact .buildC rfl rfl|exact .indexC _ rfl rfl rfl (by omega)|exact .indexC 0 rfl rfl rfl (by omega)|exact .indexC 1 rfl rfl rfl (by omega)|exact .indexC 2 rfl rfl rfl (by omega)|exact .indexArrC _ rfl rfl rfl (by omega)|exact .indexArrC 0 rfl rfl rfl (by omega)|exact .indexArrC 1 rfl rfl rfl (by omega)|exact .indexArrC 2 rfl rfl rfl (by omega)|exact .add _ rfl rfl (wrap_i64 (by omega))|exact .sub _ rfl rfl (wrap_i64 (by omega))|exact .rem _ rfl rfl (by decide) (Int.tmod_eq_emod_of_nonneg (by omega))|exact .cmpT rfl rfl rfl (by unfold cmpP;omega)|exact .cmpF rfl rfl rfl (by unfold cmpP;omega)|fail)|fail)
        exact E.again _ _ (by omega) ⟨j + 1, rfl, rfl, by omega, slRBL_poke hpk (hd b hFb) h, writ_poke hpk hW, poke_keep k4 hpk hFb⟩ ⟨rfl, rfl, rfl, rfl, rfl, rfl, some_int (by omega), trivial⟩
      · (repeat first|refine .seq ?_|refine .region ?_|refine .block ?_|refine .skip ?_|refine .ret ?_|refine .exit ?_|refine .yes rfl ?_|refine .no rfl ?_|refine .nil ?_|refine .go ?_|refine .thenExit ?_|refine .thenRet ?_|refine .inExit ?_|refine .outExit rfl ?_|refine .inNormal ?_|refine .inRet ?_|refine .off rfl rfl ?_|refine .offU rfl rfl rfl ?_|(apply W.y rfl rfl;first|exact .move rfl|exact .assign rfl|exact .fieldC rfl|exact .loadW rfl (by (first|apply Ld.oneC|apply Ld.two|apply Ld.three|apply Ld.four|apply Ld.five);repeat(first|assumption|exact Row.cell (by assumption) (by first|rfl|assumption)))|exact .nilCheck rfl|exact .lenC rfl|exact .lenStrC rfl|exact .extract rfl rfl|exact .not rfl|exact .pickT rfl rfl|exact .pickF rfl rfl|exact .buildC rfl rfl|exact .indexC _ rfl rfl rfl (by omega)|exact .indexC 0 rfl rfl rfl (by omega)|exact .indexC 1 rfl rfl rfl (by omega)|exact .indexC 2 rfl rfl rfl (by omega)|exact .indexArrC _ rfl rfl rfl (by omega)|exact .indexArrC 0 rfl rfl rfl (by omega)|exact .indexArrC 1 rfl rfl rfl (by omega)|exact .indexArrC 2 rfl rfl rfl (by omega)|exact .add _ rfl rfl (wrap_i64 (by omega))|exact .sub _ rfl rfl (wrap_i64 (by omega))|exact .rem _ rfl rfl (by decide) (Int.tmod_eq_emod_of_nonneg (by omega))|exact .cmpT rfl rfl rfl (by unfold cmpP;omega)|exact .cmpF rfl rfl rfl (by unfold cmpP;omega)|fail)|fail)
        exact E.again _ _ (by omega) ⟨i + 1, rfl, rfl, by omega, h, hW, k4⟩ ⟨rfl, rfl, rfl, some_int (by omega), trivial⟩
  · (repeat first|refine .seq ?_|refine .region ?_|refine .block ?_|refine .skip ?_|refine .ret ?_|refine .exit ?_|refine .yes rfl ?_|refine .no rfl ?_|refine .nil ?_|refine .go ?_|refine .thenExit ?_|refine .thenRet ?_|refine .inExit ?_|refine .outExit rfl ?_|refine .inNormal ?_|refine .inRet ?_|refine .off rfl rfl ?_|refine .offU rfl rfl rfl ?_|(apply W.y rfl rfl;first|exact .move rfl|exact .assign rfl|exact .fieldC rfl|exact .loadW rfl (by (first|apply Ld.oneC|apply Ld.two|apply Ld.three|apply Ld.four|apply Ld.five);repeat(first|assumption|exact Row.cell (by assumption) (by first|rfl|assumption)))|exact .nilCheck rfl|exact .lenC rfl|exact .lenStrC rfl|exact .extract rfl rfl|exact .not rfl|exact .pickT rfl rfl|exact .pickF rfl rfl|exact .buildC rfl rfl|exact .indexC _ rfl rfl rfl (by omega)|exact .indexC 0 rfl rfl rfl (by omega)|exact .indexC 1 rfl rfl rfl (by omega)|exact .indexC 2 rfl rfl rfl (by omega)|exact .indexArrC _ rfl rfl rfl (by omega)|exact .indexArrC 0 rfl rfl rfl (by omega)|exact .indexArrC 1 rfl rfl rfl (by omega)|exact .indexArrC 2 rfl rfl rfl (by omega)|exact .add _ rfl rfl (wrap_i64 (by omega))|exact .sub _ rfl rfl (wrap_i64 (by omega))|exact .rem _ rfl rfl (by decide) (Int.tmod_eq_emod_of_nonneg (by omega))|exact .cmpT rfl rfl rfl (by unfold cmpP;omega)|exact .cmpF rfl rfl rfl (by unfold cmpP;omega)|fail)|fail)
    exact E.ret0 (.inl rfl) rfl k1
end Go.Proofs.Ytmneommbdfapfaa
