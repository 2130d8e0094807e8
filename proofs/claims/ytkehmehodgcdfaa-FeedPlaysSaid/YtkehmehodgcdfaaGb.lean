/- rhizomelaw20.spoil: a delta is written over. -/
import Derived.Test.YtkehmehodgcdfaaGa
import Derived.Test.YtkehmehodgcdfaaVi
import Derived.Deep.DeepAppendWide
namespace Go.Proofs.Ytkehmehodgcdfaa
open Vb Go.RowKit

theorem Y.buildArr {P : Program} {n : Nat} {L : FL} {S : World → Prop} {ty t e : TypeId} {z v0 : Value} {m sz bytes sze bytese : Nat} {ps : List (Nat × Operand)} {pv : List (Nat × Value)} {cs : List Value} [ht : ArrC P t m e] [hz : TyC P t z sz bytes] [he : TyC P e v0 sze bytese] (hp : evp L ps = some pv) (hc : Instr.fill (fun i => some (i * sze, sze)) z.cells pv = some cs.toArray) :
    Y P n L S (.build t ps.toArray) ty (.agg cs.toArray) := ⟨fun g hg w _ dst pos after guard => by
  simp [execOp, Instr.build, hz.out.zero_, run_underlying ht.out, he.out.sizeOf_, hc, hg.evalp hp]⟩
theorem Row.cell_lt {w : World} {b : Nat} {t : TypeId} {cs : List Value} (h : Row w b t cs) {j : Nat} {v : Value} (hc : w.cell? ⟨b, j, none⟩ = some v) : cs[j]? = some v := by
  simpa [World.cell?, (show w.heap[b]? = _ from h)] using hc
/-- n ints, whatever they are; more can be appended. -/
def IL (F : Nat → Prop) (w : World) (v : Value) (n : Nat) : Prop := ∃ xs : List Int, xs.length = n ∧ Ints F w v xs ∧ AP F w v n
/-- A cell of block b is written over by an int. -/
structure Poke (w w' : World) (b : Nat) : Prop where
  keep : Keep (fun k => k = b) w w'
  ex : ∃ t cs off y, Row w b t cs ∧ Put w w' b t (splice cs off [.int .i64 y]) ∧ off + 1 ≤ cs.length
theorem Poke.cell {w w' : World} {b : Nat} (h : Poke w w' b) (o : Nat) (v : Value) (hc : w.cell? ⟨b, o, none⟩ = some v) : w'.cell? ⟨b, o, none⟩ = some v ∨ ∃ y : Int, w'.cell? ⟨b, o, none⟩ = some (.int .i64 y) := by
  obtain ⟨hk, t, cs, off, y, hr, hp, hl⟩ := h
  have h1 := Row.cell_lt hr hc
  by_cases e : o = off
  · subst e
    refine .inr ⟨y, hp.row.cell ?_⟩
    rw [splice_get (by simpa using hl), if_pos ⟨Nat.le_refl _, by simp⟩]
    simp
  · refine .inl (hp.row.cell ?_)
    rw [splice_get (by simpa using hl), if_neg (by simp; omega)]
    exact h1
theorem Poke.writ {w w' : World} {b : Nat} (h : Poke w w' b) : Writ w' b := by
  obtain ⟨hk, t, cs, off, y, hr, hp, hl⟩ := h
  exact ⟨_, _, hp.row⟩
theorem AP.poke {F : Nat → Prop} {w w' : World} {b : Nat} (hp : Poke w w' b) {v : Value} {n : Nat} (h : AP F w v n) : AP F w' v n := by
  rcases h with h | h | ⟨base, cs, h1, h2⟩
  · exact .inl h
  · exact .inr (.inl h)
  · refine .inr (.inr ?_)
    by_cases e : v.ownBlock = some b
    · obtain ⟨hk, t, ds, off, y, hr, hput, hl⟩ := hp
      obtain ⟨g1, g2⟩ := h1
      rcases g2 with ⟨e1, e2⟩ | ⟨g, cap, cur, hv, hg, hh, hcap, hm, hs, ht⟩
      · rw [e1] at e; cases e
      · subst hv
        have e' := ownB e
        subst e'
        have hr' : w.heap[b]? = some (.cells ds.toArray t (0, 0)) := hr
        rw [hh] at hr'
        simp only [Option.some.injEq, Obj.cells.injEq] at hr'
        obtain ⟨rfl, rfl, _⟩ := hr'
        have hdl : ds.length = cap * 1 := by simpa using hs
        refine ⟨base, (splice ds off [.int .i64 y]).take (n * 1), ⟨?_, .inr ⟨b, cap, (splice ds off [.int .i64 y]).toArray, rfl, hg, hput.row, hcap, hm, ?_, rfl⟩⟩, h2⟩
        · rw [List.length_take, splice_length (by simpa using hl)]; omega
        · simp only [List.size_toArray]; rw [splice_length (by simpa using hl)]; exact hdl
    · exact ⟨base, cs, own_keep hp.keep h1 (fun k hk e2 => by have e2' : k = b := e2; subst e2'; exact e hk), h2⟩
theorem IL.poke {F : Nat → Prop} {w w' : World} {b : Nat} (hp : Poke w w' b) {v : Value} {n : Nat} (h : IL F w v n) : IL F w' v n := by
  obtain ⟨xs, rfl, h, hap⟩ := h
  obtain ⟨A, c, hv, hc, hn, hb, he⟩ := h.open_
  have key : ∀ i : Nat, ∃ y : Int, i < xs.length → ∃ b' o, A = some ⟨b', o, none⟩ ∧ F b' ∧ w'.cell? ⟨b', o + i * 1, none⟩ = some (.int .i64 y) := fun i => by
    by_cases hi : i < xs.length
    · obtain ⟨b', o, cs, h1, h2, h3, h4, h5⟩ := he i hi
      have h6 : w.cell? ⟨b', o + i * 1, none⟩ = some (.int .i64 xs[i]) := by
        have e : cs = [.int .i64 xs[i]] := h5
        subst e
        exact h4 0 _ rfl
      by_cases e : b' = b
      · subst e
        rcases hp.cell _ _ h6 with h7 | ⟨y, h7⟩
        · exact ⟨_, fun _ => ⟨b', o, h1, h2, h7⟩⟩
        · exact ⟨y, fun _ => ⟨b', o, h1, h2, h7⟩⟩
      · exact ⟨_, fun _ => ⟨b', o, h1, h2, hp.keep.cell h6 e⟩⟩
    · exact ⟨0, fun h => absurd h hi⟩
  obtain ⟨g, hg⟩ := Classical.axiomOfChoice key
  have hl : ((List.range xs.length).map g).length = xs.length := by simp
  refine ⟨(List.range xs.length).map g, hl, ⟨A, c, by rw [hl]; exact hv, by rw [hl]; exact hc, hn, by rw [hl]; exact hb, fun i x hi => ?_⟩, hap.poke hp⟩
  have hil : i < xs.length := by have := (List.getElem?_eq_some_iff.1 hi).1; rw [hl] at this; exact this
  have hx : x = g i := by simpa [hil] using hi.symm
  subst hx
  obtain ⟨b', o, h1, h2, h3⟩ := hg i hil
  refine ⟨b', o, [.int .i64 (g i)], h1, h2, rfl, fun j v hj => ?_, rfl⟩
  have hj0 : j = 0 := by have := (List.getElem?_eq_some_iff.1 hj).1; simpa using this
  subst hj0
  simp only [List.getElem?_cons_zero, Option.some.injEq] at hj
  subst hj
  exact h3
theorem IL.keep {F S : Nat → Prop} {w w' : World} (k : Keep S w w') (hF : ∀ k, F k → ¬ S k) {v : Value} {n : Nat} (h : IL F w v n) : IL F w' v n := by
  obtain ⟨xs, h1, h2, h3⟩ := h
  exact ⟨xs, h1, h2.keep k hF, h3.keep k hF⟩
/-- An int to be written over. -/
theorem IL.at_ {F : Nat → Prop} {w : World} {v : Value} {n : Nat} (h : IL F w v n) {i : Nat} (hi : i < n) (hW : ∀ k, F k → Writ w k) :
    ∃ b o c x t cs, v = .slice (some ⟨b, o, none⟩) n c ∧ F b ∧ w.cell? ⟨b, o + i * 1, none⟩ = some (.int .i64 x) ∧ Row w b t cs ∧ o + i * 1 + 1 ≤ cs.length := by
  obtain ⟨xs, rfl, h, _⟩ := h
  obtain ⟨A, c, rfl, hc, hn, hb, he⟩ := h.open_
  obtain ⟨b', o, cs, rfl, h2, h3, h4, h5⟩ := he i hi
  have h6 : w.cell? ⟨b', o + i * 1, none⟩ = some (.int .i64 xs[i]) := by
    have e : cs = [.int .i64 xs[i]] := h5
    subst e
    exact h4 0 _ rfl
  obtain ⟨t, ds, hr⟩ := hW b' h2
  have h7 := (List.getElem?_eq_some_iff.1 (Row.cell_lt hr h6)).1
  exact ⟨b', o, c, xs[i], t, ds, rfl, h2, h6, hr, h7⟩
theorem IL.shape {F : Nat → Prop} {w : World} {v : Value} {n : Nat} (h : IL F w v n) : ∃ A c, v = .slice A n c := by
  obtain ⟨xs, rfl, ⟨A, c, rfl, _⟩, _⟩ := h
  exact ⟨A, c, rfl⟩
theorem IL.len {F : Nat → Prop} {w : World} {v : Value} {n : Nat} (h : IL F w v n) : n * 8 ≤ 140737488351232 := by
  obtain ⟨xs, rfl, h, _⟩ := h
  exact h.len
/-- Tuples from the i-th on. -/
def TL (br F : Nat → Prop) (w : World) (A : Option Addr) (ns : List Nat) (i : Nat) : Prop := ∀ j n, i ≤ j → ns[j]? = some n → ∃ b o u, A = some ⟨b, o, none⟩ ∧ br b ∧ w.cell? ⟨b, o + j * 1, none⟩ = some u ∧ IL F w u n
theorem TL.poke {br F : Nat → Prop} {w w' : World} {b : Nat} (hp : Poke w w' b) (hb : ¬ br b) {A : Option Addr} {ns : List Nat} {i : Nat} (h : TL br F w A ns i) : TL br F w' A ns i := fun j n hj hn => by
  obtain ⟨b', o, u, h1, h2, h3, h4⟩ := h j n hj hn
  exact ⟨b', o, u, h1, h2, hp.keep.cell h3 (fun e => by have e' : b' = b := e; subst e'; exact hb h2), h4.poke hp⟩
theorem TL.keep {br F S : Nat → Prop} {w w' : World} (k : Keep S w w') (h1 : ∀ k, br k → ¬ S k) (h2 : ∀ k, F k → ¬ S k) {A : Option Addr} {ns : List Nat} {i : Nat} (h : TL br F w A ns i) : TL br F w' A ns i := fun j n hj hn => by
  obtain ⟨b', o, u, g1, g2, g3, g4⟩ := h j n hj hn
  exact ⟨b', o, u, g1, g2, k.cell g3 (h1 b' g2), g4.keep k h2⟩
theorem writ_poke {F : Nat → Prop} {w w' : World} {b : Nat} (hp : Poke w w' b) (hW : ∀ k, F k → Writ w k) : ∀ k, F k → Writ w' k := fun k hk => by
  by_cases e : k = b
  · subst e; exact hp.writ
  · exact (hW k hk).keep hp.keep e
end Go.Proofs.Ytkehmehodgcdfaa
