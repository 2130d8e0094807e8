/- What is answered is new memory that may be written: Clone, own, Back, feed.own once more, with more told. -/
import Derived.Test.YtkehmehodgcdfaaFh
namespace Go.Proofs.Ytkehmehodgcdfaa
open Vb Go.RowKit

/-- A block that may be written. -/
def Writ (w : World) (k : Nat) : Prop := ∃ t cs, Row w k t cs
theorem Writ.keep {S : Nat → Prop} {w w' : World} {k : Nat} (h : Writ w k) (kk : Keep S w w') (hn : ¬ S k) : Writ w' k := by
  obtain ⟨t, cs, h⟩ := h
  exact ⟨t, cs, h.keep kk hn⟩
theorem Writ.lt {w : World} {k : Nat} (h : Writ w k) : k < w.heap.size := by
  obtain ⟨t, cs, h⟩ := h
  exact h.lt
theorem writ_own {w : World} {base : Nat} {e : TypeId} {sz n : Nat} {v : Value} {xs : List Value} (h : w.ownsRow base e sz v n xs) {b : Nat} (hb : v.ownBlock = some b) : Writ w b := by
  rcases h.2 with ⟨e1, e2⟩ | ⟨g, cap, cur, rfl, hg, hh, r⟩
  · rw [e1] at hb; cases hb
  · have := ownB hb
    subst this
    exact ⟨_, cur.toList, by simpa [Row] using hh⟩
theorem Sl.upR {α : Type} {F S : Nat → Prop} {sz bytes : Nat} {R R' : World → List Value → α → Prop} {w w' : World} (k : Keep S w w') (hF : ∀ k, F k → ¬ S k) (hR : ∀ cs x, R w cs x → R' w' cs x) {v : Value} {xs : List α} (h : Sl F sz bytes R w v xs) : Sl F sz bytes R' w' v xs := by
  obtain ⟨A, c, hv, hc, hn, hb, he⟩ := h
  refine ⟨A, c, hv, hc, hn, hb, fun i x hi => ?_⟩
  obtain ⟨b, o, cs, h1, h2, h3, h4, h5⟩ := he i x hi
  exact ⟨b, o, cs, h1, h2, h3, k.cells h4 (hF b h2), hR cs x h5⟩
/-- A slice that lies at an address, or nowhere. -/
def Pl (v : Value) (n : Nat) : Prop := ∃ c, v = .slice none n c ∨ ∃ b o, v = .slice (some ⟨b, o, none⟩) n c
theorem own_pl {w : World} {base : Nat} {e : TypeId} {sz n : Nat} {v : Value} {xs : List Value} (h : w.ownsRow base e sz v n xs) : Pl v n := by
  rcases h.2 with ⟨e1, e2⟩ | ⟨g, cap, cur, rfl, _⟩
  · exact ⟨0, .inl (by rw [e1, e2])⟩
  · exact ⟨cap, .inr ⟨g, 0, rfl⟩⟩
/-- A tuple to which can be appended. -/
def AP (F : Nat → Prop) (w : World) (v : Value) (n : Nat) : Prop := (v = .slice none 0 0 ∧ n = 0) ∨ (∃ b o, v = .slice (some ⟨b, o, none⟩) n n) ∨ ∃ base cs, w.ownsRow base 3 1 v n cs ∧ ∀ b, v.ownBlock = some b → F b
theorem AP.mono {F G : Nat → Prop} {w : World} {v : Value} {n : Nat} (hF : ∀ k, F k → G k) (h : AP F w v n) : AP G w v n := by
  rcases h with h | h | ⟨base, cs, h1, h2⟩
  · exact .inl h
  · exact .inr (.inl h)
  · exact .inr (.inr ⟨base, cs, h1, fun b hb => hF b (h2 b hb)⟩)
theorem AP.keep {F S : Nat → Prop} {w w' : World} {v : Value} {n : Nat} (k : Keep S w w') (hF : ∀ k, F k → ¬ S k) (h : AP F w v n) : AP F w' v n := by
  rcases h with h | h | ⟨base, cs, h1, h2⟩
  · exact .inl h
  · exact .inr (.inl h)
  · exact .inr (.inr ⟨base, cs, own_keep k h1 (fun b hb => hF b (h2 b hb)), h2⟩)
def RT (F : Nat → Prop) : World → List Value → List Int → Prop := fun w cs x => ∃ v, cs = [v] ∧ Ints F w v x ∧ AP F w v x.length
theorem RT.stable {F : Nat → Prop} : Stable F (RT F) := fun S w w' cs x k hF h => by
  obtain ⟨v, h1, h2, h3⟩ := h
  exact ⟨v, h1, h2.keep k hF, h3.keep k hF⟩
theorem RT.mono {F G : Nat → Prop} {w : World} (hF : ∀ k, F k → G k) {cs : List Value} {x : List Int} (h : RT F w cs x) : RT G w cs x := by
  obtain ⟨v, h1, h2, h3⟩ := h
  exact ⟨v, h1, h2.mono hF, h3.mono hF⟩
theorem RT.ints {F : Nat → Prop} {w : World} {cs : List Value} {x : List Int} (h : RT F w cs x) : RInts F w cs x := by
  obtain ⟨v, h1, h2, _⟩ := h
  exact ⟨v, h1, h2⟩
/-- Tuples in memory of their own, the blocks between lo and hi. -/
def TW (lo hi : Nat) (w : World) (v : Value) (xs : List (List Int)) : Prop := ∃ br : Nat → Prop, Sl br 1 24 (RT (fun k => lo ≤ k ∧ k < hi ∧ Writ w k ∧ ¬ br k)) w v xs ∧ ∀ k, br k → lo ≤ k ∧ k < hi ∧ Writ w k
theorem TW.keep {S : Nat → Prop} {w w' : World} {lo hi : Nat} {v : Value} {xs : List (List Int)} (k : Keep S w w') (hS : ∀ j, lo ≤ j → j < hi → ¬ S j) (h : TW lo hi w v xs) : TW lo hi w' v xs := by
  obtain ⟨br, h1, h2⟩ := h
  refine ⟨br, Sl.upR k (fun j hj => hS j (h2 j hj).1 (h2 j hj).2.1) (fun cs x hr => ?_) h1, fun j hj => ⟨(h2 j hj).1, (h2 j hj).2.1, (h2 j hj).2.2.keep k (hS j (h2 j hj).1 (h2 j hj).2.1)⟩⟩
  have := RT.stable _ _ _ _ _ k (fun j hj => hS j hj.1 hj.2.1) hr
  exact RT.mono (fun j hj => ⟨hj.1, hj.2.1, hj.2.2.1.keep k (hS j hj.1 hj.2.1), hj.2.2.2⟩) this
theorem TW.wide {w : World} {lo hi lo' hi' : Nat} {v : Value} {xs : List (List Int)} (h : TW lo hi w v xs) (h1 : lo' ≤ lo) (h2 : hi ≤ hi') : TW lo' hi' w v xs := by
  obtain ⟨br, g1, g2⟩ := h
  exact ⟨br, Sl.mono (fun _ h => h) (fun _ _ hr => RT.mono (fun j hj => ⟨by have := hj.1; omega, by have := hj.2.1; omega, hj.2.2⟩) hr) g1, fun j hj => ⟨by have := (g2 j hj).1; omega, by have := (g2 j hj).2.1; omega, (g2 j hj).2.2⟩⟩
theorem TW.intss {w : World} {lo hi : Nat} {v : Value} {xs : List (List Int)} (h : TW lo hi w v xs) : Intss (fun k => lo ≤ k ∧ k < hi) w v xs := by
  obtain ⟨br, g1, g2⟩ := h
  exact Sl.mono (fun j hj => ⟨(g2 j hj).1, (g2 j hj).2.1⟩) (fun _ _ hr => RInts.mono (fun j hj => ⟨hj.1, hj.2.1⟩) hr.ints) g1
def DW (lo hi : Nat) (w : World) (va vd : Value) (d : Delta) : Prop := ∃ m, lo ≤ m ∧ m ≤ hi ∧ TW lo m w va d.1 ∧ TW m hi w vd d.2
theorem DW.keep {S : Nat → Prop} {w w' : World} {lo hi : Nat} {va vd : Value} {d : Delta} (k : Keep S w w') (hS : ∀ j, lo ≤ j → j < hi → ¬ S j) (h : DW lo hi w va vd d) : DW lo hi w' va vd d := by
  obtain ⟨m, h1, h2, h3, h4⟩ := h
  exact ⟨m, h1, h2, h3.keep k (fun j a b => hS j a (by omega)), h4.keep k (fun j a b => hS j (by omega) b)⟩
theorem DW.deltas {w : World} {lo hi : Nat} {va vd : Value} {d : Delta} (h : DW lo hi w va vd d) : Deltas (fun k => lo ≤ k ∧ k < hi) w va vd d := by
  obtain ⟨m, h1, h2, h3, h4⟩ := h
  exact ⟨h3.intss.mono (fun k hk => ⟨hk.1, by have := hk.2; omega⟩), h4.intss.mono (fun k hk => ⟨by have := hk.1; omega, hk.2⟩)⟩
theorem DW.wide {w : World} {lo hi lo' hi' : Nat} {va vd : Value} {d : Delta} (h : DW lo hi w va vd d) (h1 : lo' ≤ lo) (h2 : hi ≤ hi') : DW lo' hi' w va vd d := by
  obtain ⟨m, g1, g2, g3, g4⟩ := h
  exact ⟨m, by omega, by omega, g3.wide h1 (Nat.le_refl _), g4.wide (Nat.le_refl _) h2⟩

theorem cloneW_spec (F : Nat → Prop) (v : Value) (xs : List Int) (w : World) (h : Ints F w v xs) :
    Meets Try.prog 35 #[v] w (fun r w' => Ints (fun k => w.heap.size ≤ k ∧ Writ w' k) w' r xs ∧ Pl r xs.length ∧ Keep Non w w') := by
  obtain ⟨A, c, rfl, hc, hn, hb, he⟩ := h
  refine Meets.enter Try.func35 Try.ntmps35 rfl rfl ?_
  (repeat first|refine .seq ?_|refine .region ?_|refine .block ?_|refine .skip ?_|refine .ret ?_|refine .exit ?_|refine .yes rfl ?_|refine .no rfl ?_|refine .nil ?_|refine .go ?_|refine .thenExit ?_|refine .thenRet ?_|refine .inExit ?_|refine .outExit rfl ?_|refine .inNormal ?_|refine .inRet ?_|refine .off rfl rfl ?_|refine .offU rfl rfl rfl ?_|(apply W.y rfl rfl;first|exact .move rfl|exact .assign rfl|exact .fieldC rfl|exact .loadW rfl (by (first|apply Ld.oneC|apply Ld.two|apply Ld.three|apply Ld.four|apply Ld.five);repeat(first|assumption|exact Row.cell (by assumption) (by first|rfl|assumption)))|exact .nilCheck rfl|exact .lenC rfl|exact .lenStrC rfl|exact .extract rfl rfl|exact .not rfl|exact .pickT rfl rfl|exact .pickF rfl rfl|exact .buildC rfl rfl|exact .indexC _ rfl rfl rfl (by omega)|exact .indexC 0 rfl rfl rfl (by omega)|exact .indexC 1 rfl rfl rfl (by omega)|exact .indexC 2 rfl rfl rfl (by omega)|exact .indexArrC _ rfl rfl rfl (by omega)|exact .indexArrC 0 rfl rfl rfl (by omega)|exact .indexArrC 1 rfl rfl rfl (by omega)|exact .indexArrC 2 rfl rfl rfl (by omega)|exact .add _ rfl rfl (wrap_i64 (by omega))|exact .sub _ rfl rfl (wrap_i64 (by omega))|exact .rem _ rfl rfl (by decide) (Int.tmod_eq_emod_of_nonneg (by omega))|exact .cmpT rfl rfl rfl (by unfold cmpP;omega)|exact .cmpF rfl rfl rfl (by unfold cmpP;omega)|fail)|fail)
  refine W.y rfl rfl (Y.eqlSlNilC rfl rfl) ?_
  (repeat first|refine .seq ?_|refine .region ?_|refine .block ?_|refine .skip ?_|refine .ret ?_|refine .exit ?_|refine .yes rfl ?_|refine .no rfl ?_|refine .nil ?_|refine .go ?_|refine .thenExit ?_|refine .thenRet ?_|refine .inExit ?_|refine .outExit rfl ?_|refine .inNormal ?_|refine .inRet ?_|refine .off rfl rfl ?_|refine .offU rfl rfl rfl ?_|(apply W.y rfl rfl;first|exact .move rfl|exact .assign rfl|exact .fieldC rfl|exact .loadW rfl (by (first|apply Ld.oneC|apply Ld.two|apply Ld.three|apply Ld.four|apply Ld.five);repeat(first|assumption|exact Row.cell (by assumption) (by first|rfl|assumption)))|exact .nilCheck rfl|exact .lenC rfl|exact .lenStrC rfl|exact .extract rfl rfl|exact .not rfl|exact .pickT rfl rfl|exact .pickF rfl rfl|exact .buildC rfl rfl|exact .indexC _ rfl rfl rfl (by omega)|exact .indexC 0 rfl rfl rfl (by omega)|exact .indexC 1 rfl rfl rfl (by omega)|exact .indexC 2 rfl rfl rfl (by omega)|exact .indexArrC _ rfl rfl rfl (by omega)|exact .indexArrC 0 rfl rfl rfl (by omega)|exact .indexArrC 1 rfl rfl rfl (by omega)|exact .indexArrC 2 rfl rfl rfl (by omega)|exact .add _ rfl rfl (wrap_i64 (by omega))|exact .sub _ rfl rfl (wrap_i64 (by omega))|exact .rem _ rfl rfl (by decide) (Int.tmod_eq_emod_of_nonneg (by omega))|exact .cmpT rfl rfl rfl (by unfold cmpP;omega)|exact .cmpF rfl rfl rfl (by unfold cmpP;omega)|fail)|fail)
  cases A with
  | none =>
    have h0 : xs = [] := List.eq_nil_of_length_eq_zero (by have := hn rfl; omega)
    (repeat first|refine .seq ?_|refine .region ?_|refine .block ?_|refine .skip ?_|refine .ret ?_|refine .exit ?_|refine .yes rfl ?_|refine .no rfl ?_|refine .nil ?_|refine .go ?_|refine .thenExit ?_|refine .thenRet ?_|refine .inExit ?_|refine .outExit rfl ?_|refine .inNormal ?_|refine .inRet ?_|refine .off rfl rfl ?_|refine .offU rfl rfl rfl ?_|(apply W.y rfl rfl;first|exact .move rfl|exact .assign rfl|exact .fieldC rfl|exact .loadW rfl (by (first|apply Ld.oneC|apply Ld.two|apply Ld.three|apply Ld.four|apply Ld.five);repeat(first|assumption|exact Row.cell (by assumption) (by first|rfl|assumption)))|exact .nilCheck rfl|exact .lenC rfl|exact .lenStrC rfl|exact .extract rfl rfl|exact .not rfl|exact .pickT rfl rfl|exact .pickF rfl rfl|exact .buildC rfl rfl|exact .indexC _ rfl rfl rfl (by omega)|exact .indexC 0 rfl rfl rfl (by omega)|exact .indexC 1 rfl rfl rfl (by omega)|exact .indexC 2 rfl rfl rfl (by omega)|exact .indexArrC _ rfl rfl rfl (by omega)|exact .indexArrC 0 rfl rfl rfl (by omega)|exact .indexArrC 1 rfl rfl rfl (by omega)|exact .indexArrC 2 rfl rfl rfl (by omega)|exact .add _ rfl rfl (wrap_i64 (by omega))|exact .sub _ rfl rfl (wrap_i64 (by omega))|exact .rem _ rfl rfl (by decide) (Int.tmod_eq_emod_of_nonneg (by omega))|exact .cmpT rfl rfl rfl (by unfold cmpP;omega)|exact .cmpF rfl rfl rfl (by unfold cmpP;omega)|fail)|fail)
    subst h0
    exact E.ret1 rfl rfl ⟨Sl.nil, ⟨0, .inl rfl⟩, Keep.refl _ _⟩
  | some ad =>
    (repeat first|refine .seq ?_|refine .region ?_|refine .block ?_|refine .skip ?_|refine .ret ?_|refine .exit ?_|refine .yes rfl ?_|refine .no rfl ?_|refine .nil ?_|refine .go ?_|refine .thenExit ?_|refine .thenRet ?_|refine .inExit ?_|refine .outExit rfl ?_|refine .inNormal ?_|refine .inRet ?_|refine .off rfl rfl ?_|refine .offU rfl rfl rfl ?_|(apply W.y rfl rfl;first|exact .move rfl|exact .assign rfl|exact .fieldC rfl|exact .loadW rfl (by (first|apply Ld.oneC|apply Ld.two|apply Ld.three|apply Ld.four|apply Ld.five);repeat(first|assumption|exact Row.cell (by assumption) (by first|rfl|assumption)))|exact .nilCheck rfl|exact .lenC rfl|exact .lenStrC rfl|exact .extract rfl rfl|exact .not rfl|exact .pickT rfl rfl|exact .pickF rfl rfl|exact .buildC rfl rfl|exact .indexC _ rfl rfl rfl (by omega)|exact .indexC 0 rfl rfl rfl (by omega)|exact .indexC 1 rfl rfl rfl (by omega)|exact .indexC 2 rfl rfl rfl (by omega)|exact .indexArrC _ rfl rfl rfl (by omega)|exact .indexArrC 0 rfl rfl rfl (by omega)|exact .indexArrC 1 rfl rfl rfl (by omega)|exact .indexArrC 2 rfl rfl rfl (by omega)|exact .add _ rfl rfl (wrap_i64 (by omega))|exact .sub _ rfl rfl (wrap_i64 (by omega))|exact .rem _ rfl rfl (by decide) (Int.tmod_eq_emod_of_nonneg (by omega))|exact .cmpT rfl rfl rfl (by unfold cmpP;omega)|exact .cmpF rfl rfl rfl (by unfold cmpP;omega)|fail)|fail)
    refine W.st rfl rfl (St.lit (vs := []) rfl rfl (by omega) (fun _ h => by cases h)) (fun v1 w1 hv => ?_)
    obtain ⟨b, rfl, hN⟩ := hv
    have hsz := hN.size
    have hat := hN.at_
    (repeat first|refine .seq ?_|refine .region ?_|refine .block ?_|refine .skip ?_|refine .ret ?_|refine .exit ?_|refine .yes rfl ?_|refine .no rfl ?_|refine .nil ?_|refine .go ?_|refine .thenExit ?_|refine .thenRet ?_|refine .inExit ?_|refine .outExit rfl ?_|refine .inNormal ?_|refine .inRet ?_|refine .off rfl rfl ?_|refine .offU rfl rfl rfl ?_|(apply W.y rfl rfl;first|exact .move rfl|exact .assign rfl|exact .fieldC rfl|exact .loadW rfl (by (first|apply Ld.oneC|apply Ld.two|apply Ld.three|apply Ld.four|apply Ld.five);repeat(first|assumption|exact Row.cell (by assumption) (by first|rfl|assumption)))|exact .nilCheck rfl|exact .lenC rfl|exact .lenStrC rfl|exact .extract rfl rfl|exact .not rfl|exact .pickT rfl rfl|exact .pickF rfl rfl|exact .buildC rfl rfl|exact .indexC _ rfl rfl rfl (by omega)|exact .indexC 0 rfl rfl rfl (by omega)|exact .indexC 1 rfl rfl rfl (by omega)|exact .indexC 2 rfl rfl rfl (by omega)|exact .indexArrC _ rfl rfl rfl (by omega)|exact .indexArrC 0 rfl rfl rfl (by omega)|exact .indexArrC 1 rfl rfl rfl (by omega)|exact .indexArrC 2 rfl rfl rfl (by omega)|exact .add _ rfl rfl (wrap_i64 (by omega))|exact .sub _ rfl rfl (wrap_i64 (by omega))|exact .rem _ rfl rfl (by decide) (Int.tmod_eq_emod_of_nonneg (by omega))|exact .cmpT rfl rfl rfl (by unfold cmpP;omega)|exact .cmpF rfl rfl rfl (by unfold cmpP;omega)|fail)|fail)
    have hown : w1.ownsRow w.heap.size 3 1 (.slice (some ⟨b, 0, none⟩) 0 0) 0 [] := ⟨rfl, .inr ⟨b, 0, #[], rfl, by omega, hN.row, Nat.le_refl _, Nat.zero_le _, rfl, rfl⟩⟩
    by_cases h0 : xs.length = 0
    · have hx : xs = [] := List.eq_nil_of_length_eq_zero h0
      subst hx
      refine W.y rfl rfl (Y.appendNoneC rfl rfl (Nat.le_refl _)) ?_
      (repeat first|refine .seq ?_|refine .region ?_|refine .block ?_|refine .skip ?_|refine .ret ?_|refine .exit ?_|refine .yes rfl ?_|refine .no rfl ?_|refine .nil ?_|refine .go ?_|refine .thenExit ?_|refine .thenRet ?_|refine .inExit ?_|refine .outExit rfl ?_|refine .inNormal ?_|refine .inRet ?_|refine .off rfl rfl ?_|refine .offU rfl rfl rfl ?_|(apply W.y rfl rfl;first|exact .move rfl|exact .assign rfl|exact .fieldC rfl|exact .loadW rfl (by (first|apply Ld.oneC|apply Ld.two|apply Ld.three|apply Ld.four|apply Ld.five);repeat(first|assumption|exact Row.cell (by assumption) (by first|rfl|assumption)))|exact .nilCheck rfl|exact .lenC rfl|exact .lenStrC rfl|exact .extract rfl rfl|exact .not rfl|exact .pickT rfl rfl|exact .pickF rfl rfl|exact .buildC rfl rfl|exact .indexC _ rfl rfl rfl (by omega)|exact .indexC 0 rfl rfl rfl (by omega)|exact .indexC 1 rfl rfl rfl (by omega)|exact .indexC 2 rfl rfl rfl (by omega)|exact .indexArrC _ rfl rfl rfl (by omega)|exact .indexArrC 0 rfl rfl rfl (by omega)|exact .indexArrC 1 rfl rfl rfl (by omega)|exact .indexArrC 2 rfl rfl rfl (by omega)|exact .add _ rfl rfl (wrap_i64 (by omega))|exact .sub _ rfl rfl (wrap_i64 (by omega))|exact .rem _ rfl rfl (by decide) (Int.tmod_eq_emod_of_nonneg (by omega))|exact .cmpT rfl rfl rfl (by unfold cmpP;omega)|exact .cmpF rfl rfl rfl (by unfold cmpP;omega)|fail)|fail)
      exact E.ret1 rfl rfl ⟨Ints.of_own (xs := []) hown (by omega) (fun b' hb' => ⟨by have := ownB hb'; omega, writ_own hown hb'⟩), ⟨0, .inr ⟨_, _, rfl⟩⟩, hN.keep⟩
    · have hI : Ints F w (.slice (some ad) xs.length c) xs := ⟨some ad, c, rfl, hc, hn, hb, he⟩
      obtain ⟨b', o', e1, hFb, hcs⟩ := hI.cells (by omega)
      cases e1
      refine W.st rfl rfl (St.appendC w.heap.size (xs.map (Value.int .i64)) rfl rfl hown (hN.keep.cells hcs (non_not _)) (by simp) (ints_one _ _) (by omega) (by omega)) (fun v2 w2 h2 => ?_)
      obtain ⟨h2, k2, h3⟩ := h2
      (repeat first|refine .seq ?_|refine .region ?_|refine .block ?_|refine .skip ?_|refine .ret ?_|refine .exit ?_|refine .yes rfl ?_|refine .no rfl ?_|refine .nil ?_|refine .go ?_|refine .thenExit ?_|refine .thenRet ?_|refine .inExit ?_|refine .outExit rfl ?_|refine .inNormal ?_|refine .inRet ?_|refine .off rfl rfl ?_|refine .offU rfl rfl rfl ?_|(apply W.y rfl rfl;first|exact .move rfl|exact .assign rfl|exact .fieldC rfl|exact .loadW rfl (by (first|apply Ld.oneC|apply Ld.two|apply Ld.three|apply Ld.four|apply Ld.five);repeat(first|assumption|exact Row.cell (by assumption) (by first|rfl|assumption)))|exact .nilCheck rfl|exact .lenC rfl|exact .lenStrC rfl|exact .extract rfl rfl|exact .not rfl|exact .pickT rfl rfl|exact .pickF rfl rfl|exact .buildC rfl rfl|exact .indexC _ rfl rfl rfl (by omega)|exact .indexC 0 rfl rfl rfl (by omega)|exact .indexC 1 rfl rfl rfl (by omega)|exact .indexC 2 rfl rfl rfl (by omega)|exact .indexArrC _ rfl rfl rfl (by omega)|exact .indexArrC 0 rfl rfl rfl (by omega)|exact .indexArrC 1 rfl rfl rfl (by omega)|exact .indexArrC 2 rfl rfl rfl (by omega)|exact .add _ rfl rfl (wrap_i64 (by omega))|exact .sub _ rfl rfl (wrap_i64 (by omega))|exact .rem _ rfl rfl (by decide) (Int.tmod_eq_emod_of_nonneg (by omega))|exact .cmpT rfl rfl rfl (by unfold cmpP;omega)|exact .cmpF rfl rfl rfl (by unfold cmpP;omega)|fail)|fail)
      refine E.ret1 rfl rfl ⟨Ints.of_own h2 (by omega) (fun b' hb' => ⟨(h2.lt b' hb').1, writ_own h2 hb'⟩), by have := own_pl h2; rw [Nat.zero_add] at this; exact this, hN.keep.far k2 (fun i hi => by have := ownB' hi; omega)⟩

theorem clipW_spec (F : Nat → Prop) (v : Value) (xs : List Int) (w : World) (h : Ints F w v xs) (hp : Pl v xs.length) :
    Meets Try.prog 34 #[v] w (fun r w' => Ints F w r xs ∧ ((r = .slice none 0 0 ∧ xs.length = 0) ∨ ∃ b o, r = .slice (some ⟨b, o, none⟩) xs.length xs.length) ∧ w' = w) := by
  have h' := h
  obtain ⟨A, c, rfl, hc, hn, hb, _⟩ := h
  have hcl := Sl.clip h'
  have hsh : (Value.slice A xs.length xs.length = .slice none 0 0 ∧ xs.length = 0) ∨ ∃ b o, Value.slice A xs.length xs.length = .slice (some ⟨b, o, none⟩) xs.length xs.length := by
    obtain ⟨c', hp | ⟨b, o, hp⟩⟩ := hp
    · simp only [Value.slice.injEq] at hp
      obtain ⟨rfl, _, _⟩ := hp
      have h0 : xs.length = 0 := by have := hn rfl; omega
      exact .inl ⟨by rw [h0], h0⟩
    · simp only [Value.slice.injEq] at hp
      obtain ⟨rfl, _, _⟩ := hp
      exact .inr ⟨b, o, rfl⟩
  refine Meets.enter Try.func34 Try.ntmps34 rfl rfl ?_
  (repeat first|refine .seq ?_|refine .region ?_|refine .block ?_|refine .skip ?_|refine .ret ?_|refine .exit ?_|refine .yes rfl ?_|refine .no rfl ?_|refine .nil ?_|refine .go ?_|refine .thenExit ?_|refine .thenRet ?_|refine .inExit ?_|refine .outExit rfl ?_|refine .inNormal ?_|refine .inRet ?_|refine .off rfl rfl ?_|refine .offU rfl rfl rfl ?_|(apply W.y rfl rfl;first|exact .move rfl|exact .assign rfl|exact .fieldC rfl|exact .loadW rfl (by (first|apply Ld.oneC|apply Ld.two|apply Ld.three|apply Ld.four|apply Ld.five);repeat(first|assumption|exact Row.cell (by assumption) (by first|rfl|assumption)))|exact .nilCheck rfl|exact .lenC rfl|exact .lenStrC rfl|exact .extract rfl rfl|exact .not rfl|exact .pickT rfl rfl|exact .pickF rfl rfl|exact .buildC rfl rfl|exact .indexC _ rfl rfl rfl (by omega)|exact .indexC 0 rfl rfl rfl (by omega)|exact .indexC 1 rfl rfl rfl (by omega)|exact .indexC 2 rfl rfl rfl (by omega)|exact .indexArrC _ rfl rfl rfl (by omega)|exact .indexArrC 0 rfl rfl rfl (by omega)|exact .indexArrC 1 rfl rfl rfl (by omega)|exact .indexArrC 2 rfl rfl rfl (by omega)|exact .add _ rfl rfl (wrap_i64 (by omega))|exact .sub _ rfl rfl (wrap_i64 (by omega))|exact .rem _ rfl rfl (by decide) (Int.tmod_eq_emod_of_nonneg (by omega))|exact .cmpT rfl rfl rfl (by unfold cmpP;omega)|exact .cmpF rfl rfl rfl (by unfold cmpP;omega)|fail)|fail)
  refine W.y rfl rfl (Y.cut3 xs.length xs.length rfl rfl rfl rfl rfl (Nat.le_refl _) hc) ?_
  (repeat first|refine .seq ?_|refine .region ?_|refine .block ?_|refine .skip ?_|refine .ret ?_|refine .exit ?_|refine .yes rfl ?_|refine .no rfl ?_|refine .nil ?_|refine .go ?_|refine .thenExit ?_|refine .thenRet ?_|refine .inExit ?_|refine .outExit rfl ?_|refine .inNormal ?_|refine .inRet ?_|refine .off rfl rfl ?_|refine .offU rfl rfl rfl ?_|(apply W.y rfl rfl;first|exact .move rfl|exact .assign rfl|exact .fieldC rfl|exact .loadW rfl (by (first|apply Ld.oneC|apply Ld.two|apply Ld.three|apply Ld.four|apply Ld.five);repeat(first|assumption|exact Row.cell (by assumption) (by first|rfl|assumption)))|exact .nilCheck rfl|exact .lenC rfl|exact .lenStrC rfl|exact .extract rfl rfl|exact .not rfl|exact .pickT rfl rfl|exact .pickF rfl rfl|exact .buildC rfl rfl|exact .indexC _ rfl rfl rfl (by omega)|exact .indexC 0 rfl rfl rfl (by omega)|exact .indexC 1 rfl rfl rfl (by omega)|exact .indexC 2 rfl rfl rfl (by omega)|exact .indexArrC _ rfl rfl rfl (by omega)|exact .indexArrC 0 rfl rfl rfl (by omega)|exact .indexArrC 1 rfl rfl rfl (by omega)|exact .indexArrC 2 rfl rfl rfl (by omega)|exact .add _ rfl rfl (wrap_i64 (by omega))|exact .sub _ rfl rfl (wrap_i64 (by omega))|exact .rem _ rfl rfl (by decide) (Int.tmod_eq_emod_of_nonneg (by omega))|exact .cmpT rfl rfl rfl (by unfold cmpP;omega)|exact .cmpF rfl rfl rfl (by unfold cmpP;omega)|fail)|fail)
  exact E.ret1 rfl rfl ⟨hcl, hsh, rfl⟩
/-- tuple.own -/
theorem ownW_spec (F : Nat → Prop) (v : Value) (xs : List (List Int)) (w : World) (h : Intss F w v xs) :
    Meets Try.prog 33 #[v] w (fun r w' => TW w.heap.size w'.heap.size w' r xs ∧ Keep Non w w') := by
  have h' := h
  obtain ⟨A, c, rfl, hc, hn, hb, he⟩ := h
  refine Meets.enter Try.func33 Try.ntmps33 rfl rfl ?_
  (repeat first|refine .seq ?_|refine .region ?_|refine .block ?_|refine .skip ?_|refine .ret ?_|refine .exit ?_|refine .yes rfl ?_|refine .no rfl ?_|refine .nil ?_|refine .go ?_|refine .thenExit ?_|refine .thenRet ?_|refine .inExit ?_|refine .outExit rfl ?_|refine .inNormal ?_|refine .inRet ?_|refine .off rfl rfl ?_|refine .offU rfl rfl rfl ?_|(apply W.y rfl rfl;first|exact .move rfl|exact .assign rfl|exact .fieldC rfl|exact .loadW rfl (by (first|apply Ld.oneC|apply Ld.two|apply Ld.three|apply Ld.four|apply Ld.five);repeat(first|assumption|exact Row.cell (by assumption) (by first|rfl|assumption)))|exact .nilCheck rfl|exact .lenC rfl|exact .lenStrC rfl|exact .extract rfl rfl|exact .not rfl|exact .pickT rfl rfl|exact .pickF rfl rfl|exact .buildC rfl rfl|exact .indexC _ rfl rfl rfl (by omega)|exact .indexC 0 rfl rfl rfl (by omega)|exact .indexC 1 rfl rfl rfl (by omega)|exact .indexC 2 rfl rfl rfl (by omega)|exact .indexArrC _ rfl rfl rfl (by omega)|exact .indexArrC 0 rfl rfl rfl (by omega)|exact .indexArrC 1 rfl rfl rfl (by omega)|exact .indexArrC 2 rfl rfl rfl (by omega)|exact .add _ rfl rfl (wrap_i64 (by omega))|exact .sub _ rfl rfl (wrap_i64 (by omega))|exact .rem _ rfl rfl (by decide) (Int.tmod_eq_emod_of_nonneg (by omega))|exact .cmpT rfl rfl rfl (by unfold cmpP;omega)|exact .cmpF rfl rfl rfl (by unfold cmpP;omega)|fail)|fail)
  refine W.st rfl rfl (St.make0C w.heap.size xs.length rfl rfl rfl (by omega) (by simp only [maxLen]; omega) (by omega)) (fun v1 w1 hv => ?_)
  obtain ⟨hown, hk, rfl⟩ := hv
  (repeat first|refine .seq ?_|refine .region ?_|refine .block ?_|refine .skip ?_|refine .ret ?_|refine .exit ?_|refine .yes rfl ?_|refine .no rfl ?_|refine .nil ?_|refine .go ?_|refine .thenExit ?_|refine .thenRet ?_|refine .inExit ?_|refine .outExit rfl ?_|refine .inNormal ?_|refine .inRet ?_|refine .off rfl rfl ?_|refine .offU rfl rfl rfl ?_|(apply W.y rfl rfl;first|exact .move rfl|exact .assign rfl|exact .fieldC rfl|exact .loadW rfl (by (first|apply Ld.oneC|apply Ld.two|apply Ld.three|apply Ld.four|apply Ld.five);repeat(first|assumption|exact Row.cell (by assumption) (by first|rfl|assumption)))|exact .nilCheck rfl|exact .lenC rfl|exact .lenStrC rfl|exact .extract rfl rfl|exact .not rfl|exact .pickT rfl rfl|exact .pickF rfl rfl|exact .buildC rfl rfl|exact .indexC _ rfl rfl rfl (by omega)|exact .indexC 0 rfl rfl rfl (by omega)|exact .indexC 1 rfl rfl rfl (by omega)|exact .indexC 2 rfl rfl rfl (by omega)|exact .indexArrC _ rfl rfl rfl (by omega)|exact .indexArrC 0 rfl rfl rfl (by omega)|exact .indexArrC 1 rfl rfl rfl (by omega)|exact .indexArrC 2 rfl rfl rfl (by omega)|exact .add _ rfl rfl (wrap_i64 (by omega))|exact .sub _ rfl rfl (wrap_i64 (by omega))|exact .rem _ rfl rfl (by decide) (Int.tmod_eq_emod_of_nonneg (by omega))|exact .cmpT rfl rfl rfl (by unfold cmpP;omega)|exact .cmpF rfl rfl rfl (by unfold cmpP;omega)|fail)|fail)
  refine C.loop (fun k L w' => ∃ (i : Nat) (vo : Value) (cs : List Value), L = [(3, vo), (9, .slice A xs.length c), (10, .int .i64 xs.length), (11, .int .i64 i)] ∧ k = xs.length - i ∧ i ≤ xs.length ∧ w'.ownsRow w.heap.size 40 1 vo i cs ∧ Keep Non w w' ∧
      ∀ j x, j < i → xs[j]? = some x → RT (fun k => w.heap.size ≤ k ∧ Writ w' k ∧ vo.ownBlock ≠ some k) w' ((cs.drop (j * 1)).take 1) x) xs.length _ ⟨0, _, _, rfl, rfl, Nat.zero_le _, hown, hk, fun j x hj => absurd hj (Nat.not_lt_zero _)⟩ ⟨rfl, rfl, rfl, rfl, trivial⟩ ?_
  rintro k L w' ⟨i, vo, cs, rfl, rfl, hi, hown, hk, hcs⟩
  by_cases hlt : i < xs.length
  · obtain ⟨b, o, cs1, rfl, hFb, hl1, hc1, v1, rfl, hv1⟩ := he i _ (List.getElem?_eq_getElem hlt)
    have hcell : w'.cell? ⟨b, o + i * 1, none⟩ = some v1 := hk.cell (hc1 0 v1 rfl) (non_not _)
    have hv1' := hv1.keep hk (fun k _ => non_not k)
    (repeat first|refine .seq ?_|refine .region ?_|refine .block ?_|refine .skip ?_|refine .ret ?_|refine .exit ?_|refine .yes rfl ?_|refine .no rfl ?_|refine .nil ?_|refine .go ?_|refine .thenExit ?_|refine .thenRet ?_|refine .inExit ?_|refine .outExit rfl ?_|refine .inNormal ?_|refine .inRet ?_|refine .off rfl rfl ?_|refine .offU rfl rfl rfl ?_|(apply W.y rfl rfl;first|exact .move rfl|exact .assign rfl|exact .fieldC rfl|exact .loadW rfl (by (first|apply Ld.oneC|apply Ld.two|apply Ld.three|apply Ld.four|apply Ld.five);repeat(first|assumption|exact Row.cell (by assumption) (by first|rfl|assumption)))|exact .nilCheck rfl|exact .lenC rfl|exact .lenStrC rfl|exact .extract rfl rfl|exact .not rfl|exact .pickT rfl rfl|exact .pickF rfl rfl|exact .buildC rfl rfl|exact .indexC _ rfl rfl rfl (by omega)|exact .indexC 0 rfl rfl rfl (by omega)|exact .indexC 1 rfl rfl rfl (by omega)|exact .indexC 2 rfl rfl rfl (by omega)|exact .indexArrC _ rfl rfl rfl (by omega)|exact .indexArrC 0 rfl rfl rfl (by omega)|exact .indexArrC 1 rfl rfl rfl (by omega)|exact .indexArrC 2 rfl rfl rfl (by omega)|exact .add _ rfl rfl (wrap_i64 (by omega))|exact .sub _ rfl rfl (wrap_i64 (by omega))|exact .rem _ rfl rfl (by decide) (Int.tmod_eq_emod_of_nonneg (by omega))|exact .cmpT rfl rfl rfl (by unfold cmpP;omega)|exact .cmpF rfl rfl rfl (by unfold cmpP;omega)|fail)|fail)
    refine W.st rfl rfl (St.callC rfl (cloneW_spec F v1 xs[i] w' hv1')) (fun v2 w2 h2 => ?_)
    obtain ⟨hv2, hp2, k2⟩ := h2
    refine W.st rfl rfl (St.callC rfl (clipW_spec _ v2 xs[i] w2 hv2 hp2)) (fun v3 w3 h3 => ?_)
    obtain ⟨hv3, hap, rfl⟩ := h3
    have hv3' := hv3
    obtain ⟨A3, c3, rfl, _⟩ := hv3'
    refine W.st rfl rfl (St.lit (vs := [.slice A3 xs[i].length c3]) rfl rfl (by omega) (fun v hv => by simp only [List.mem_singleton] at hv; subst hv; rfl)) (fun v4 w4 h4 => ?_)
    obtain ⟨b4, rfl, hN⟩ := h4
    have hsz := hN.size
    have hat := hN.at_
    have hk3 := hk.then k2
    have ho4 : w4.ownsRow w.heap.size 40 1 vo i cs := own_keep hN.keep (own_keep k2 hown (fun _ _ => non_not _)) (fun _ _ => non_not _)
    have hl4 : cs.length = i := by have := hown.1; omega
    have hlt4 := hown.lt
    refine W.st rfl rfl (St.appendC w.heap.size [.slice A3 xs[i].length c3] rfl rfl ho4 (hN.row.cells 0 _ rfl) rfl (fun u hu => by simp only [List.mem_singleton] at hu; subst hu; rfl) (by omega) (by have := hk3.size; omega)) (fun v5 w5 h5 => ?_)
    obtain ⟨h5, k5, h5b⟩ := h5
    (repeat first|refine .seq ?_|refine .region ?_|refine .block ?_|refine .skip ?_|refine .ret ?_|refine .exit ?_|refine .yes rfl ?_|refine .no rfl ?_|refine .nil ?_|refine .go ?_|refine .thenExit ?_|refine .thenRet ?_|refine .inExit ?_|refine .outExit rfl ?_|refine .inNormal ?_|refine .inRet ?_|refine .off rfl rfl ?_|refine .offU rfl rfl rfl ?_|(apply W.y rfl rfl;first|exact .move rfl|exact .assign rfl|exact .fieldC rfl|exact .loadW rfl (by (first|apply Ld.oneC|apply Ld.two|apply Ld.three|apply Ld.four|apply Ld.five);repeat(first|assumption|exact Row.cell (by assumption) (by first|rfl|assumption)))|exact .nilCheck rfl|exact .lenC rfl|exact .lenStrC rfl|exact .extract rfl rfl|exact .not rfl|exact .pickT rfl rfl|exact .pickF rfl rfl|exact .buildC rfl rfl|exact .indexC _ rfl rfl rfl (by omega)|exact .indexC 0 rfl rfl rfl (by omega)|exact .indexC 1 rfl rfl rfl (by omega)|exact .indexC 2 rfl rfl rfl (by omega)|exact .indexArrC _ rfl rfl rfl (by omega)|exact .indexArrC 0 rfl rfl rfl (by omega)|exact .indexArrC 1 rfl rfl rfl (by omega)|exact .indexArrC 2 rfl rfl rfl (by omega)|exact .add _ rfl rfl (wrap_i64 (by omega))|exact .sub _ rfl rfl (wrap_i64 (by omega))|exact .rem _ rfl rfl (by decide) (Int.tmod_eq_emod_of_nonneg (by omega))|exact .cmpT rfl rfl rfl (by unfold cmpP;omega)|exact .cmpF rfl rfl rfl (by unfold cmpP;omega)|fail)|fail)
    have hk5 := (hk3.then hN.keep).far k5 (fun j hj => by have := hlt4 j hj.symm; omega)
    have s0 := hk.size
    have s2 := k2.size
    have s5 := k5.size
    refine E.again _ _ ?_ ⟨i + 1, v5, _, rfl, rfl, by omega, h5, hk5, fun j x hj hx => ?_⟩ ⟨rfl, rfl, rfl, rfl, trivial⟩
    · omega
    · by_cases hji : j = i
      · subst hji
        rw [take_snoc hl4]
        have : x = xs[j] := by rw [List.getElem?_eq_getElem hlt] at hx; simpa using hx.symm
        subst this
        refine ⟨_, rfl, ?_, hap.imp id .inl⟩
        have hns : ∀ k, w'.heap.size ≤ k → vo.ownBlock ≠ some k := fun k hk' h => by have := hlt4 k h; omega
        refine Ints.mono (F := fun k => w'.heap.size ≤ k ∧ Writ w3 k) (fun k hk' => ⟨by omega, (hk'.2.keep hN.keep (non_not _)).keep k5 (fun e => hns k hk'.1 e.symm), fun e => ?_⟩) (Ints.keep k5 (fun k hk' h => hns k hk'.1 h.symm) (Ints.keep hN.keep (fun k _ => non_not k) hv3))
        have h8 := hk'.2.lt
        rcases h5b with h5b | h5b <;> rw [h5b] at e
        · exact hns k hk'.1 e
        · cases e; omega
      · rw [take_old hl4 (by omega)]
        have h6 := hcs j x (by omega) hx
        refine RT.mono (fun k hk' => ⟨hk'.1, ((hk'.2.1.keep k2 (non_not _)).keep hN.keep (non_not _)).keep k5 (fun e => hk'.2.2 e.symm), fun e => ?_⟩) (RT.stable _ _ _ _ _ k5 (fun k hk' h => hk'.2.2 h.symm) (RT.stable _ _ _ _ _ hN.keep (fun k _ => non_not k) (RT.stable _ _ _ _ _ k2 (fun k _ => non_not k) h6)))
        have h8 := hk'.2.1.lt
        rcases h5b with h5b | h5b <;> rw [h5b] at e
        · exact hk'.2.2 e
        · cases e; omega
  · (repeat first|refine .seq ?_|refine .region ?_|refine .block ?_|refine .skip ?_|refine .ret ?_|refine .exit ?_|refine .yes rfl ?_|refine .no rfl ?_|refine .nil ?_|refine .go ?_|refine .thenExit ?_|refine .thenRet ?_|refine .inExit ?_|refine .outExit rfl ?_|refine .inNormal ?_|refine .inRet ?_|refine .off rfl rfl ?_|refine .offU rfl rfl rfl ?_|(apply W.y rfl rfl;first|exact .move rfl|exact .assign rfl|exact .fieldC rfl|exact .loadW rfl (by (first|apply Ld.oneC|apply Ld.two|apply Ld.three|apply Ld.four|apply Ld.five);repeat(first|assumption|exact Row.cell (by assumption) (by first|rfl|assumption)))|exact .nilCheck rfl|exact .lenC rfl|exact .lenStrC rfl|exact .extract rfl rfl|exact .not rfl|exact .pickT rfl rfl|exact .pickF rfl rfl|exact .buildC rfl rfl|exact .indexC _ rfl rfl rfl (by omega)|exact .indexC 0 rfl rfl rfl (by omega)|exact .indexC 1 rfl rfl rfl (by omega)|exact .indexC 2 rfl rfl rfl (by omega)|exact .indexArrC _ rfl rfl rfl (by omega)|exact .indexArrC 0 rfl rfl rfl (by omega)|exact .indexArrC 1 rfl rfl rfl (by omega)|exact .indexArrC 2 rfl rfl rfl (by omega)|exact .add _ rfl rfl (wrap_i64 (by omega))|exact .sub _ rfl rfl (wrap_i64 (by omega))|exact .rem _ rfl rfl (by decide) (Int.tmod_eq_emod_of_nonneg (by omega))|exact .cmpT rfl rfl rfl (by unfold cmpP;omega)|exact .cmpF rfl rfl rfl (by unfold cmpP;omega)|fail)|fail)
    refine E.ret1 rfl rfl ⟨?_, hk⟩
    have hi' : xs.length = i := by omega
    exact ⟨fun k => vo.ownBlock = some k, Sl.of_own hown hi' (by omega) (fun b hb => hb) (fun j x hj => RT.mono (fun k h => ⟨h.1, h.2.1.lt, h.2.1, h.2.2⟩) (hcs j x (by have := (List.getElem?_eq_some_iff.1 hj).1; omega) hj)), fun k hk => ⟨(hown.lt k hk).1, (hown.lt k hk).2, writ_own hown hk⟩⟩

/-- tuple.Back -/
theorem backW_spec (F : Nat → Prop) (va vd : Value) (d : Delta) (w : World) (h : Deltas F w va vd d) :
    Meets Try.prog 31 #[.agg #[va, vd]] w (fun r w' => ∃ va' vd', r = .agg #[va', vd'] ∧ DW w.heap.size w'.heap.size w' va' vd' (d.2, d.1) ∧ Keep Non w w') := by
  obtain ⟨ha, hd⟩ := h
  refine Meets.enter Try.func31 Try.ntmps31 rfl rfl ?_
  (repeat first|refine .seq ?_|refine .region ?_|refine .block ?_|refine .skip ?_|refine .ret ?_|refine .exit ?_|refine .yes rfl ?_|refine .no rfl ?_|refine .nil ?_|refine .go ?_|refine .thenExit ?_|refine .thenRet ?_|refine .inExit ?_|refine .outExit rfl ?_|refine .inNormal ?_|refine .inRet ?_|refine .off rfl rfl ?_|refine .offU rfl rfl rfl ?_|(apply W.y rfl rfl;first|exact .move rfl|exact .assign rfl|exact .fieldC rfl|exact .loadW rfl (by (first|apply Ld.oneC|apply Ld.two|apply Ld.three|apply Ld.four|apply Ld.five);repeat(first|assumption|exact Row.cell (by assumption) (by first|rfl|assumption)))|exact .nilCheck rfl|exact .lenC rfl|exact .lenStrC rfl|exact .extract rfl rfl|exact .not rfl|exact .pickT rfl rfl|exact .pickF rfl rfl|exact .buildC rfl rfl|exact .indexC _ rfl rfl rfl (by omega)|exact .indexC 0 rfl rfl rfl (by omega)|exact .indexC 1 rfl rfl rfl (by omega)|exact .indexC 2 rfl rfl rfl (by omega)|exact .indexArrC _ rfl rfl rfl (by omega)|exact .indexArrC 0 rfl rfl rfl (by omega)|exact .indexArrC 1 rfl rfl rfl (by omega)|exact .indexArrC 2 rfl rfl rfl (by omega)|exact .add _ rfl rfl (wrap_i64 (by omega))|exact .sub _ rfl rfl (wrap_i64 (by omega))|exact .rem _ rfl rfl (by decide) (Int.tmod_eq_emod_of_nonneg (by omega))|exact .cmpT rfl rfl rfl (by unfold cmpP;omega)|exact .cmpF rfl rfl rfl (by unfold cmpP;omega)|fail)|fail)
  refine W.st rfl rfl (St.box rfl) (fun v1 w1 hv => ?_)
  obtain ⟨b1, rfl, hN1⟩ := hv
  refine W.st rfl rfl St.allocC (fun v2 w2 hv => ?_)
  obtain ⟨b2, rfl, hN2⟩ := hv
  have hr1 := hN1.row.keep hN2.keep (non_not _)
  have k2 := hN1.keep.then hN2.keep
  have s1 := hN1.size
  have s2 := hN2.size
  have a1 := hN1.at_
  have a2 := hN2.at_
  (repeat first|refine .seq ?_|refine .region ?_|refine .block ?_|refine .skip ?_|refine .ret ?_|refine .exit ?_|refine .yes rfl ?_|refine .no rfl ?_|refine .nil ?_|refine .go ?_|refine .thenExit ?_|refine .thenRet ?_|refine .inExit ?_|refine .outExit rfl ?_|refine .inNormal ?_|refine .inRet ?_|refine .off rfl rfl ?_|refine .offU rfl rfl rfl ?_|(apply W.y rfl rfl;first|exact .move rfl|exact .assign rfl|exact .fieldC rfl|exact .loadW rfl (by (first|apply Ld.oneC|apply Ld.two|apply Ld.three|apply Ld.four|apply Ld.five);repeat(first|assumption|exact Row.cell (by assumption) (by first|rfl|assumption)))|exact .nilCheck rfl|exact .lenC rfl|exact .lenStrC rfl|exact .extract rfl rfl|exact .not rfl|exact .pickT rfl rfl|exact .pickF rfl rfl|exact .buildC rfl rfl|exact .indexC _ rfl rfl rfl (by omega)|exact .indexC 0 rfl rfl rfl (by omega)|exact .indexC 1 rfl rfl rfl (by omega)|exact .indexC 2 rfl rfl rfl (by omega)|exact .indexArrC _ rfl rfl rfl (by omega)|exact .indexArrC 0 rfl rfl rfl (by omega)|exact .indexArrC 1 rfl rfl rfl (by omega)|exact .indexArrC 2 rfl rfl rfl (by omega)|exact .add _ rfl rfl (wrap_i64 (by omega))|exact .sub _ rfl rfl (wrap_i64 (by omega))|exact .rem _ rfl rfl (by decide) (Int.tmod_eq_emod_of_nonneg (by omega))|exact .cmpT rfl rfl rfl (by unfold cmpP;omega)|exact .cmpF rfl rfl rfl (by unfold cmpP;omega)|fail)|fail)
  refine C.draw 8 (fun wq => Keep Non w2 wq) [7] mixed rfl (fun w3 kw3 ew3 => ?_)
  ((refine .take 0 rfl (by kernel_rfl) rfl rfl (.fieldC rfl) ?_); (refine .read 1 rfl (by kernel_rfl) rfl rfl (by assumption) (.load rfl (fun w hw => (by (first|apply Ld.oneC|apply Ld.two|apply Ld.three|apply Ld.four|apply Ld.five);repeat(apply Keep.cell hw;(first|assumption|exact Row.cell (by assumption) (by first|rfl|assumption));first|exact non_not _|assumption|(intro e;omega)|(simp;omega))))) ?_); (refine .take 3 rfl (by kernel_rfl) rfl rfl (.fieldC rfl) ?_); (refine .read 4 rfl (by kernel_rfl) rfl rfl (by assumption) (.load rfl (fun w hw => (by (first|apply Ld.oneC|apply Ld.two|apply Ld.three|apply Ld.four|apply Ld.five);repeat(apply Keep.cell hw;(first|assumption|exact Row.cell (by assumption) (by first|rfl|assumption));first|exact non_not _|assumption|(intro e;omega)|(simp;omega))))) ?_))
  refine D.one 2 rfl (by kernel_rfl) rfl rfl (St.callC rfl (ownW_spec F vd d.2 w3 ((hd.keep k2 (fun k _ => non_not k)).keep kw3 (fun k _ => non_not k)))) (fun v4 w4 h4 => ⟨fun _ hS => hS.then h4.2, ?_⟩)
  obtain ⟨h4, k4⟩ := h4
  have s3 := kw3.size
  have s4 := k4.size
  skip
  refine D.one 5 rfl (by kernel_rfl) rfl rfl (St.callC rfl (ownW_spec F va d.1 w4 (((ha.keep k2 (fun k _ => non_not k)).keep kw3 (fun k _ => non_not k)).keep k4 (fun k _ => non_not k)))) (fun v5 w5 h5 => ⟨fun _ hS => hS.then h5.2, ?_⟩)
  obtain ⟨h5, k5⟩ := h5
  have s5 := k5.size
  have h4' := h4.keep k5 (fun j _ _ => non_not j)
  obtain ⟨A4, c4, e4, _⟩ := id h4'.intss
  obtain ⟨A5, c5, e5, _⟩ := id h5.intss
  subst e4; subst e5
  ((refine .take 6 rfl (by kernel_rfl) rfl rfl (.buildC rfl rfl) ?_))
  have hr2 : Row w5 b2 32 _ := ((hN2.row.keep kw3 (non_not _)).keep k4 (non_not _)).keep k5 (non_not _)
  refine D.one0 7 rfl (by kernel_rfl) rfl (St.storeC rfl rfl rfl hr2 (by simp [Value.cells]) (by simp [Value.cells, Value.oneCell'])) (fun v6 w6 h6 => ⟨fun h => absurd h (by decide), ?_⟩)
  have hr6 := h6.row
  have s6 := h6.size
  refine D.fin (by kernel_rfl) ?_
  (repeat first|refine .seq ?_|refine .region ?_|refine .block ?_|refine .skip ?_|refine .ret ?_|refine .exit ?_|refine .yes rfl ?_|refine .no rfl ?_|refine .nil ?_|refine .go ?_|refine .thenExit ?_|refine .thenRet ?_|refine .inExit ?_|refine .outExit rfl ?_|refine .inNormal ?_|refine .inRet ?_|refine .off rfl rfl ?_|refine .offU rfl rfl rfl ?_|(apply W.y rfl rfl;first|exact .move rfl|exact .assign rfl|exact .fieldC rfl|exact .loadW rfl (by (first|apply Ld.oneC|apply Ld.two|apply Ld.three|apply Ld.four|apply Ld.five);repeat(first|assumption|exact Row.cell (by assumption) (by first|rfl|assumption)))|exact .nilCheck rfl|exact .lenC rfl|exact .lenStrC rfl|exact .extract rfl rfl|exact .not rfl|exact .pickT rfl rfl|exact .pickF rfl rfl|exact .buildC rfl rfl|exact .indexC _ rfl rfl rfl (by omega)|exact .indexC 0 rfl rfl rfl (by omega)|exact .indexC 1 rfl rfl rfl (by omega)|exact .indexC 2 rfl rfl rfl (by omega)|exact .indexArrC _ rfl rfl rfl (by omega)|exact .indexArrC 0 rfl rfl rfl (by omega)|exact .indexArrC 1 rfl rfl rfl (by omega)|exact .indexArrC 2 rfl rfl rfl (by omega)|exact .add _ rfl rfl (wrap_i64 (by omega))|exact .sub _ rfl rfl (wrap_i64 (by omega))|exact .rem _ rfl rfl (by decide) (Int.tmod_eq_emod_of_nonneg (by omega))|exact .cmpT rfl rfl rfl (by unfold cmpP;omega)|exact .cmpF rfl rfl rfl (by unfold cmpP;omega)|fail)|fail)
  have kk : Keep Non w w6 := ((k2.then kw3).then (k4.then k5)).put h6 (by omega)
  refine E.retCell rfl rfl (Ld.two (by first|assumption|exact Row.cell (by assumption) (by first|rfl|assumption)) (by first|assumption|exact Row.cell (by assumption) (by first|rfl|assumption))) ⟨_, _, rfl, ⟨w4.heap.size, by omega, by omega, ?_, ?_⟩, kk⟩
  · exact (h4'.keep h6.keep (fun j a b e => by have e' : j = b2 := e; omega)).wide (by omega) (Nat.le_refl _)
  · exact (h5.keep h6.keep (fun j a b e => by have e' : j = b2 := e; omega)).wide (Nat.le_refl _) (by omega)

/-- feed.own -/
theorem fownW_spec (F : Nat → Prop) (va vd : Value) (d : Delta) (w : World) (h : Deltas F w va vd d) :
    Meets Try.prog 27 #[.agg #[va, vd]] w (fun r w' => ∃ va' vd', r = .agg #[va', vd'] ∧ DW w.heap.size w'.heap.size w' va' vd' d ∧ Keep Non w w') := by
  refine Meets.enter Try.func27 Try.ntmps27 rfl rfl ?_
  (repeat first|refine .seq ?_|refine .region ?_|refine .block ?_|refine .skip ?_|refine .ret ?_|refine .exit ?_|refine .yes rfl ?_|refine .no rfl ?_|refine .nil ?_|refine .go ?_|refine .thenExit ?_|refine .thenRet ?_|refine .inExit ?_|refine .outExit rfl ?_|refine .inNormal ?_|refine .inRet ?_|refine .off rfl rfl ?_|refine .offU rfl rfl rfl ?_|(apply W.y rfl rfl;first|exact .move rfl|exact .assign rfl|exact .fieldC rfl|exact .loadW rfl (by (first|apply Ld.oneC|apply Ld.two|apply Ld.three|apply Ld.four|apply Ld.five);repeat(first|assumption|exact Row.cell (by assumption) (by first|rfl|assumption)))|exact .nilCheck rfl|exact .lenC rfl|exact .lenStrC rfl|exact .extract rfl rfl|exact .not rfl|exact .pickT rfl rfl|exact .pickF rfl rfl|exact .buildC rfl rfl|exact .indexC _ rfl rfl rfl (by omega)|exact .indexC 0 rfl rfl rfl (by omega)|exact .indexC 1 rfl rfl rfl (by omega)|exact .indexC 2 rfl rfl rfl (by omega)|exact .indexArrC _ rfl rfl rfl (by omega)|exact .indexArrC 0 rfl rfl rfl (by omega)|exact .indexArrC 1 rfl rfl rfl (by omega)|exact .indexArrC 2 rfl rfl rfl (by omega)|exact .add _ rfl rfl (wrap_i64 (by omega))|exact .sub _ rfl rfl (wrap_i64 (by omega))|exact .rem _ rfl rfl (by decide) (Int.tmod_eq_emod_of_nonneg (by omega))|exact .cmpT rfl rfl rfl (by unfold cmpP;omega)|exact .cmpF rfl rfl rfl (by unfold cmpP;omega)|fail)|fail)
  refine W.st rfl rfl (St.box rfl) (fun v1 w1 hv => ?_)
  obtain ⟨b1, rfl, hN1⟩ := hv
  refine W.st rfl rfl St.allocC (fun v2 w2 hv => ?_)
  obtain ⟨b2, rfl, hN2⟩ := hv
  have hr1 := hN1.row.keep hN2.keep (non_not _)
  have k2 := hN1.keep.then hN2.keep
  have s1 := hN1.size
  have s2 := hN2.size
  have a1 := hN1.at_
  have a2 := hN2.at_
  (repeat first|refine .seq ?_|refine .region ?_|refine .block ?_|refine .skip ?_|refine .ret ?_|refine .exit ?_|refine .yes rfl ?_|refine .no rfl ?_|refine .nil ?_|refine .go ?_|refine .thenExit ?_|refine .thenRet ?_|refine .inExit ?_|refine .outExit rfl ?_|refine .inNormal ?_|refine .inRet ?_|refine .off rfl rfl ?_|refine .offU rfl rfl rfl ?_|(apply W.y rfl rfl;first|exact .move rfl|exact .assign rfl|exact .fieldC rfl|exact .loadW rfl (by (first|apply Ld.oneC|apply Ld.two|apply Ld.three|apply Ld.four|apply Ld.five);repeat(first|assumption|exact Row.cell (by assumption) (by first|rfl|assumption)))|exact .nilCheck rfl|exact .lenC rfl|exact .lenStrC rfl|exact .extract rfl rfl|exact .not rfl|exact .pickT rfl rfl|exact .pickF rfl rfl|exact .buildC rfl rfl|exact .indexC _ rfl rfl rfl (by omega)|exact .indexC 0 rfl rfl rfl (by omega)|exact .indexC 1 rfl rfl rfl (by omega)|exact .indexC 2 rfl rfl rfl (by omega)|exact .indexArrC _ rfl rfl rfl (by omega)|exact .indexArrC 0 rfl rfl rfl (by omega)|exact .indexArrC 1 rfl rfl rfl (by omega)|exact .indexArrC 2 rfl rfl rfl (by omega)|exact .add _ rfl rfl (wrap_i64 (by omega))|exact .sub _ rfl rfl (wrap_i64 (by omega))|exact .rem _ rfl rfl (by decide) (Int.tmod_eq_emod_of_nonneg (by omega))|exact .cmpT rfl rfl rfl (by unfold cmpP;omega)|exact .cmpF rfl rfl rfl (by unfold cmpP;omega)|fail)|fail)
  refine W.st rfl rfl (St.callC rfl (backW_spec F va vd d w2 (h.keep k2 (fun k _ => non_not k)))) (fun v3 w3 h3 => ?_)
  obtain ⟨va3, vd3, rfl, h3, k3⟩ := h3
  refine W.st rfl rfl (St.callC rfl (backW_spec _ va3 vd3 (d.2, d.1) w3 h3.deltas)) (fun v4 w4 h4 => ?_)
  obtain ⟨va4, vd4, rfl, h4, k4⟩ := h4
  have s3 := k3.size
  have s4 := k4.size
  have hr2 : Row w4 b2 32 _ := (hN2.row.keep k3 (non_not _)).keep k4 (non_not _)
  obtain ⟨A4, c4, e4, _⟩ := id h4.deltas.1
  obtain ⟨A5, c5, e5, _⟩ := id h4.deltas.2
  subst e4; subst e5
  refine W.st0 rfl (St.storeC rfl rfl rfl hr2 (by simp [Value.cells]) (by simp [Value.cells, Value.oneCell'])) (fun v6 w6 h6 => ?_)
  have hr6 := h6.row
  have s6 := h6.size
  (repeat first|refine .seq ?_|refine .region ?_|refine .block ?_|refine .skip ?_|refine .ret ?_|refine .exit ?_|refine .yes rfl ?_|refine .no rfl ?_|refine .nil ?_|refine .go ?_|refine .thenExit ?_|refine .thenRet ?_|refine .inExit ?_|refine .outExit rfl ?_|refine .inNormal ?_|refine .inRet ?_|refine .off rfl rfl ?_|refine .offU rfl rfl rfl ?_|(apply W.y rfl rfl;first|exact .move rfl|exact .assign rfl|exact .fieldC rfl|exact .loadW rfl (by (first|apply Ld.oneC|apply Ld.two|apply Ld.three|apply Ld.four|apply Ld.five);repeat(first|assumption|exact Row.cell (by assumption) (by first|rfl|assumption)))|exact .nilCheck rfl|exact .lenC rfl|exact .lenStrC rfl|exact .extract rfl rfl|exact .not rfl|exact .pickT rfl rfl|exact .pickF rfl rfl|exact .buildC rfl rfl|exact .indexC _ rfl rfl rfl (by omega)|exact .indexC 0 rfl rfl rfl (by omega)|exact .indexC 1 rfl rfl rfl (by omega)|exact .indexC 2 rfl rfl rfl (by omega)|exact .indexArrC _ rfl rfl rfl (by omega)|exact .indexArrC 0 rfl rfl rfl (by omega)|exact .indexArrC 1 rfl rfl rfl (by omega)|exact .indexArrC 2 rfl rfl rfl (by omega)|exact .add _ rfl rfl (wrap_i64 (by omega))|exact .sub _ rfl rfl (wrap_i64 (by omega))|exact .rem _ rfl rfl (by decide) (Int.tmod_eq_emod_of_nonneg (by omega))|exact .cmpT rfl rfl rfl (by unfold cmpP;omega)|exact .cmpF rfl rfl rfl (by unfold cmpP;omega)|fail)|fail)
  have kk : Keep Non w w6 := (k2.then (k3.then k4)).put h6 (by omega)
  refine E.retCell rfl rfl (Ld.two (by first|assumption|exact Row.cell (by assumption) (by first|rfl|assumption)) (by first|assumption|exact Row.cell (by assumption) (by first|rfl|assumption))) ⟨_, _, rfl, ?_, kk⟩
  exact (h4.keep h6.keep (fun j a b e => by have e' : j = b2 := e; omega)).wide (by omega) (by omega)
end Go.Proofs.Ytkehmehodgcdfaa
