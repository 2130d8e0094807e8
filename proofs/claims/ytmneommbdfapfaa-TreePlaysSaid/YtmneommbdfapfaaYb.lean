/- The reference's lists of pairs in memory; its Put, Get, Delete, Range, Rank; same. -/
import Derived.Test.YtmneommbdfapfaaYa
import Derived.Test.YtmneommbdfapfaaTv
namespace Go.Proofs.Ytmneommbdfapfaa
open Vb Go.RowKit

section
variable {P : Program} {n : Nat} {L : FL} {S : World → Prop} {ty : TypeId} {x y : Operand} {t t' : TypeId} {a b : Bs}
theorem Y.eqlStrT (h : a = b) (hx : ev L x = some (str a)) (hy : ev L y = some (str b)) : Y P n L S (.binOp .eql t x y t') ty (.bool true) := by
  have := Y.eqlStr (P := P) (n := n) (S := S) (ty := ty) (t := t) (t' := t') hx hy
  simpa [h] using this
theorem Y.eqlStrF (h : a ≠ b) (hx : ev L x = some (str a)) (hy : ev L y = some (str b)) : Y P n L S (.binOp .eql t x y t') ty (.bool false) := by
  have := Y.eqlStr (P := P) (n := n) (S := S) (ty := ty) (t := t) (t' := t') hx hy
  have e : (a == b) = false := beq_eq_false_iff_ne.2 h
  simpa [e] using this
theorem Y.neqStrT (h : a ≠ b) (hx : ev L x = some (str a)) (hy : ev L y = some (str b)) : Y P n L S (.binOp .neq t x y t') ty (.bool true) := by
  have := Y.neqStr (P := P) (n := n) (S := S) (ty := ty) (t := t) (t' := t') hx hy
  have e : (a == b) = false := beq_eq_false_iff_ne.2 h
  simpa [e] using this
theorem Y.neqStrF' (h : a = b) (hx : ev L x = some (str a)) (hy : ev L y = some (str b)) : Y P n L S (.binOp .neq t x y t') ty (.bool false) := by
  have := Y.neqStr (P := P) (n := n) (S := S) (ty := ty) (t := t) (t' := t') hx hy
  simpa [h] using this
theorem Y.lssStrT (h : a < b) (hx : ev L x = some (str a)) (hy : ev L y = some (str b)) : Y P n L S (.binOp .lss t x y t') ty (.bool true) := by
  have := Y.lssStr (P := P) (n := n) (S := S) (ty := ty) (t := t) (t' := t') hx hy
  rw [bytesLess_eq, decide_eq_true h] at this
  exact this
theorem Y.lssStrF (h : ¬ a < b) (hx : ev L x = some (str a)) (hy : ev L y = some (str b)) : Y P n L S (.binOp .lss t x y t') ty (.bool false) := by
  have := Y.lssStr (P := P) (n := n) (S := S) (ty := ty) (t := t) (t' := t') hx hy
  rw [bytesLess_eq, decide_eq_false h] at this
  exact this
theorem Y.geqStr (hx : ev L x = some (str a)) (hy : ev L y = some (str b)) : Y P n L S (.binOp .geq t x y t') ty (.bool !(Op.bytesLess a b)) :=
  Y.strOp hx hy (by simp [Op.stringOp]) (fun t => rfl)
theorem Y.geqStrT (h : ¬ a < b) (hx : ev L x = some (str a)) (hy : ev L y = some (str b)) : Y P n L S (.binOp .geq t x y t') ty (.bool true) := by
  have := Y.geqStr (P := P) (n := n) (S := S) (ty := ty) (t := t) (t' := t') hx hy
  rw [bytesLess_eq, decide_eq_false h] at this
  exact this
theorem Y.geqStrF (h : a < b) (hx : ev L x = some (str a)) (hy : ev L y = some (str b)) : Y P n L S (.binOp .geq t x y t') ty (.bool false) := by
  have := Y.geqStr (P := P) (n := n) (S := S) (ty := ty) (t := t) (t' := t') hx hy
  rw [bytesLess_eq, decide_eq_true h] at this
  exact this
end

/-- A pair's two cells, as strings. -/
def RSP : World → List Value → Pr → Prop := fun _ cs p => cs = [str p.1, str p.2]
theorem RSP.stable {F : Nat → Prop} : Stable F RSP := fun _ _ _ _ _ _ _ h => h
def SPairs (F : Nat → Prop) (w : World) (v : Value) (l : List Pr) : Prop := Sl F 2 32 RSP w v l
theorem SPairs.keep {F S : Nat → Prop} {w w' : World} (k : Keep S w w') (hF : ∀ k, F k → ¬ S k) {v : Value} {l : List Pr} (h : SPairs F w v l) : SPairs F w' v l := Sl.keep RSP.stable k hF h
theorem SPairs.mono {F G : Nat → Prop} {w : World} (hF : ∀ k, F k → G k) {v : Value} {l : List Pr} (h : SPairs F w v l) : SPairs G w v l := Sl.mono hF (fun _ _ h => h) h
def sflat (l : List Pr) : List Value := l.flatMap (fun p => [str p.1, str p.2])
theorem sflat_snoc (l : List Pr) (p : Pr) : sflat (l ++ [p]) = sflat l ++ [str p.1, str p.2] := by simp [sflat]
theorem len_snoc (l : List Pr) (p : Pr) : (l ++ [p]).length = l.length + 1 := by simp
theorem sflat_length (l : List Pr) : (sflat l).length = l.length * 2 := by
  induction l with
  | nil => rfl
  | cons p l ih => simp only [sflat, List.flatMap_cons, List.length_append, List.length_cons, List.length_nil] at ih ⊢; omega
theorem sflat_get (l : List Pr) (i : Nat) (p : Pr) (h : l[i]? = some p) : ((sflat l).drop (i * 2)).take 2 = [str p.1, str p.2] := by
  induction l generalizing i with
  | nil => simp at h
  | cons q l ih =>
    cases i with
    | zero =>
      simp only [List.getElem?_cons_zero, Option.some.injEq] at h
      subst h
      simp [sflat]
    | succ i =>
      have := ih i (by simpa using h)
      rw [show (i + 1) * 2 = i * 2 + 1 + 1 by omega]
      simpa [sflat] using this
theorem SPairs.of_own {F : Nat → Prop} {w : World} {base : Nat} {v : Value} {n : Nat} {l : List Pr} (h : w.ownsRow base 79 2 v n (sflat l)) (hn : l.length = n) (hb : l.length ≤ 1000000) (hF : ∀ b, v.ownBlock = some b → F b) : SPairs F w v l :=
  Sl.of_own h hn (by omega) hF (fun i p hi => sflat_get l i p hi)
theorem own_shape {w : World} {base : Nat} {e : TypeId} {sz n : Nat} {v : Value} {cs : List Value} (h : w.ownsRow base e sz v n cs) : ∃ A c, v = .slice A n c := by
  rcases h.2 with ⟨e1, e2⟩ | ⟨g, cap, cur, rfl, _⟩
  · exact ⟨none, 0, by rw [e1, e2]⟩
  · exact ⟨_, _, rfl⟩

/-! ### Put -/
def rputF (k x : Bs) : List Pr → Bool → List Pr
  | [], d => if d then [] else [(k, x)]
  | p :: l, d => if p.1 = k then rputF k x l d else if d = false ∧ k < p.1 then (k, x) :: p :: rputF k x l true else p :: rputF k x l d
theorem rputF_true (k x : Bs) : ∀ {l : List Pr}, (∀ q ∈ l, q.1 ≠ k) → rputF k x l true = l
  | [], _ => rfl
  | p :: l, h => by
    rw [rputF, if_neg (h p (by simp)), if_neg (by simp), rputF_true k x (fun q hq => h q (by simp [hq]))]
theorem rputF_great (k x : Bs) : ∀ {l : List Pr}, (∀ q ∈ l, k < q.1) → rputF k x l false = (k, x) :: l
  | [], _ => rfl
  | p :: l, h => by
    have hp := h p (by simp)
    rw [rputF, if_neg (ne_of_blt hp).symm, if_pos ⟨rfl, hp⟩, rputF_true k x (fun q hq => (ne_of_blt (h q (by simp [hq]))).symm)]
theorem rputF_eq (k x : Bs) : ∀ {l : List Pr}, Sorted l → rputF k x l false = insL k x l
  | [], _ => rfl
  | p :: l, h => by
    obtain ⟨h1, h2⟩ := List.pairwise_cons.1 h
    rw [rputF, insL]
    by_cases e : p.1 = k
    · subst e
      rw [if_pos rfl, if_neg (blt_irrefl _), if_neg (blt_irrefl _), rputF_great p.1 x h1]
    · rw [if_neg e]
      by_cases hk : k < p.1
      · rw [if_pos ⟨rfl, hk⟩, if_pos hk, rputF_true k x (fun q hq => (ne_of_blt (blt_trans hk (h1 q hq))).symm)]
      · have hlt : p.1 < k := by
          rcases blt_tri k p.1 with h | h | h
          · exact absurd h hk
          · exact absurd h.symm e
          · exact h
        rw [if_neg (fun h => hk h.2), if_neg hk, if_pos hlt, rputF_eq k x h2]

set_option maxHeartbeats 3200000 in
theorem rput_spec (F : Nat → Prop) (vm : Value) (l : List Pr) (k x : Bs) (w : World) (h : SPairs F w vm l) (hl : l.length ≤ 1000) (hS : Sorted l) :
    Meets Try.prog 33 #[vm, str k, str x] w (fun r w' => ∃ vo, r = .tuple #[vo, .bool (getL k l).isNone] ∧ SPairs (Fresh w w') w' vo (insL k x l) ∧ Keep Non w w') := by
  obtain ⟨A, c, rfl, hc, hn, hb, he⟩ := h
  rw [← rputF_eq k x hS]
  refine Meets.enter Try.func33 Try.ntmps33 rfl rfl ?_
  (repeat first|refine .seq ?_|refine .region ?_|refine .block ?_|refine .skip ?_|refine .ret ?_|refine .exit ?_|refine .yes rfl ?_|refine .no rfl ?_|refine .nil ?_|refine .go ?_|refine .thenExit ?_|refine .thenRet ?_|refine .inExit ?_|refine .outExit rfl ?_|refine .inNormal ?_|refine .inRet ?_|refine .off rfl rfl ?_|refine .offU rfl rfl rfl ?_|(apply W.y rfl rfl;first|exact .move rfl|exact .assign rfl|exact .fieldC rfl|exact .loadW rfl (by (first|apply Ld.oneC|apply Ld.two|apply Ld.three|apply Ld.four|apply Ld.five);repeat(first|assumption|exact Row.cell (by assumption) (by first|rfl|assumption)))|exact .nilCheck rfl|exact .lenC rfl|exact .lenStrC rfl|exact .extract rfl rfl|exact .not rfl|exact .pickT rfl rfl|exact .pickF rfl rfl|exact .buildC rfl rfl|exact .indexC _ rfl rfl rfl (by omega)|exact .indexC 0 rfl rfl rfl (by omega)|exact .indexC 1 rfl rfl rfl (by omega)|exact .indexC 2 rfl rfl rfl (by omega)|exact .indexArrC _ rfl rfl rfl (by omega)|exact .indexArrC 0 rfl rfl rfl (by omega)|exact .indexArrC 1 rfl rfl rfl (by omega)|exact .indexArrC 2 rfl rfl rfl (by omega)|exact .add _ rfl rfl (wrap_i64 (by omega))|exact .sub _ rfl rfl (wrap_i64 (by omega))|exact .rem _ rfl rfl (by decide) (Int.tmod_eq_emod_of_nonneg (by omega))|exact .cmpT rfl rfl rfl (by unfold cmpP;omega)|exact .cmpF rfl rfl rfl (by unfold cmpP;omega)|fail)|fail)
  refine C.loop (fun m L w' => ∃ (i : Nat) (out : List Pr) (fresh done : Bool) (vo : Value), L = [(0, .slice A l.length c), (1, str k), (2, str x), (8, vo), (9, .bool fresh), (10, .bool done), (12, .slice A l.length c), (13, .int .i64 l.length), (14, .int .i64 i)] ∧ m = l.length - i ∧ i ≤ l.length ∧ w'.ownsRow w.heap.size 79 2 vo out.length (sflat out) ∧ Keep Non w w' ∧
      out ++ rputF k x (l.drop i) done = rputF k x l false ∧ (fresh && (getL k (l.drop i)).isNone) = (getL k l).isNone ∧ out.length ≤ 2 * i) l.length _
    ⟨0, [], true, false, _, rfl, rfl, by omega, World.ownsRow_nil _ _ _ _, Keep.refl _ _, rfl, by simp, by simp⟩ ⟨rfl, rfl, rfl, rfl, rfl, rfl, rfl, rfl, rfl, trivial⟩ ?_
  rintro m L w' ⟨i, out, fresh, done, vo, rfl, rfl, hi, hown, hk, hrng, hfr, hol⟩
  obtain ⟨Ao, co, rfl⟩ := own_shape hown
  have s0 := hk.size
  by_cases hlt : i < l.length
  · obtain ⟨p, hp⟩ : ∃ p, l[i]? = some p := ⟨_, List.getElem?_eq_getElem hlt⟩
    obtain ⟨bb, o, cs0, rfl, hF0, hl0, hcs0, rfl⟩ := he i p hp
    have q0 : w'.cell? ⟨bb, o + i * 2, none⟩ = some _ := hk.cell (hcs0 0 _ rfl) (non_not _)
    have q1 : w'.cell? ⟨bb, o + i * 2 + 1, none⟩ = some _ := hk.cell (hcs0 1 _ rfl) (non_not _)
    have hd : l.drop i = p :: l.drop (i + 1) := by
      rw [List.drop_eq_getElem_cons hlt]
      have := (List.getElem?_eq_some_iff.1 hp).2
      rw [this]
    rw [hd] at hrng hfr
    (repeat first|refine .seq ?_|refine .region ?_|refine .block ?_|refine .skip ?_|refine .ret ?_|refine .exit ?_|refine .yes rfl ?_|refine .no rfl ?_|refine .nil ?_|refine .go ?_|refine .thenExit ?_|refine .thenRet ?_|refine .inExit ?_|refine .outExit rfl ?_|refine .inNormal ?_|refine .inRet ?_|refine .off rfl rfl ?_|refine .offU rfl rfl rfl ?_|(apply W.y rfl rfl;first|exact .move rfl|exact .assign rfl|exact .fieldC rfl|exact .loadW rfl (by (first|apply Ld.oneC|apply Ld.two|apply Ld.three|apply Ld.four|apply Ld.five);repeat(first|assumption|exact Row.cell (by assumption) (by first|rfl|assumption)))|exact .nilCheck rfl|exact .lenC rfl|exact .lenStrC rfl|exact .extract rfl rfl|exact .not rfl|exact .pickT rfl rfl|exact .pickF rfl rfl|exact .buildC rfl rfl|exact .indexC _ rfl rfl rfl (by omega)|exact .indexC 0 rfl rfl rfl (by omega)|exact .indexC 1 rfl rfl rfl (by omega)|exact .indexC 2 rfl rfl rfl (by omega)|exact .indexArrC _ rfl rfl rfl (by omega)|exact .indexArrC 0 rfl rfl rfl (by omega)|exact .indexArrC 1 rfl rfl rfl (by omega)|exact .indexArrC 2 rfl rfl rfl (by omega)|exact .add _ rfl rfl (wrap_i64 (by omega))|exact .sub _ rfl rfl (wrap_i64 (by omega))|exact .rem _ rfl rfl (by decide) (Int.tmod_eq_emod_of_nonneg (by omega))|exact .cmpT rfl rfl rfl (by unfold cmpP;omega)|exact .cmpF rfl rfl rfl (by unfold cmpP;omega)|fail)|fail)
    by_cases hpk : p.1 = k
    · refine W.y rfl rfl (Y.eqlStrT hpk rfl rfl) ?_
      have e1 : (getL k (p :: l.drop (i + 1))).isNone = false := by simp [getL, hpk]
      rw [e1, Bool.and_false] at hfr
      rw [rputF, if_pos hpk] at hrng
      (repeat first|refine .seq ?_|refine .region ?_|refine .block ?_|refine .skip ?_|refine .ret ?_|refine .exit ?_|refine .yes rfl ?_|refine .no rfl ?_|refine .nil ?_|refine .go ?_|refine .thenExit ?_|refine .thenRet ?_|refine .inExit ?_|refine .outExit rfl ?_|refine .inNormal ?_|refine .inRet ?_|refine .off rfl rfl ?_|refine .offU rfl rfl rfl ?_|(apply W.y rfl rfl;first|exact .move rfl|exact .assign rfl|exact .fieldC rfl|exact .loadW rfl (by (first|apply Ld.oneC|apply Ld.two|apply Ld.three|apply Ld.four|apply Ld.five);repeat(first|assumption|exact Row.cell (by assumption) (by first|rfl|assumption)))|exact .nilCheck rfl|exact .lenC rfl|exact .lenStrC rfl|exact .extract rfl rfl|exact .not rfl|exact .pickT rfl rfl|exact .pickF rfl rfl|exact .buildC rfl rfl|exact .indexC _ rfl rfl rfl (by omega)|exact .indexC 0 rfl rfl rfl (by omega)|exact .indexC 1 rfl rfl rfl (by omega)|exact .indexC 2 rfl rfl rfl (by omega)|exact .indexArrC _ rfl rfl rfl (by omega)|exact .indexArrC 0 rfl rfl rfl (by omega)|exact .indexArrC 1 rfl rfl rfl (by omega)|exact .indexArrC 2 rfl rfl rfl (by omega)|exact .add _ rfl rfl (wrap_i64 (by omega))|exact .sub _ rfl rfl (wrap_i64 (by omega))|exact .rem _ rfl rfl (by decide) (Int.tmod_eq_emod_of_nonneg (by omega))|exact .cmpT rfl rfl rfl (by unfold cmpP;omega)|exact .cmpF rfl rfl rfl (by unfold cmpP;omega)|fail)|fail)
      exact E.again _ _ (by omega) ⟨i + 1, out, false, done, _, rfl, rfl, by omega, hown, hk, hrng, by rw [Bool.false_and]; exact hfr, by omega⟩ ⟨rfl, rfl, rfl, rfl, rfl, rfl, rfl, rfl, some_int (by omega), trivial⟩
    · refine W.y rfl rfl (Y.eqlStrF hpk rfl rfl) ?_
      have e1 : (getL k (p :: l.drop (i + 1))).isNone = (getL k (l.drop (i + 1))).isNone := by
        have e2 : (p.1 == k) = false := beq_eq_false_iff_ne.2 hpk
        simp [getL, e2]
      rw [e1] at hfr
      rw [rputF, if_neg hpk] at hrng
      (repeat first|refine .region ?_|refine .block ?_|refine .skip ?_|refine .ret ?_|refine .exit ?_|refine .yes rfl ?_|refine .no rfl ?_|refine .nil ?_|refine .go ?_|refine .thenExit ?_|refine .thenRet ?_|refine .inExit ?_|refine .outExit rfl ?_|refine .inNormal ?_|refine .inRet ?_|refine .off rfl rfl ?_|refine .offU rfl rfl rfl ?_|(apply W.y rfl rfl;first|exact .move rfl|exact .assign rfl|exact .fieldC rfl|exact .loadW rfl (by (first|apply Ld.oneC|apply Ld.two|apply Ld.three|apply Ld.four|apply Ld.five);repeat(first|assumption|exact Row.cell (by assumption) (by first|rfl|assumption)))|exact .nilCheck rfl|exact .lenC rfl|exact .lenStrC rfl|exact .extract rfl rfl|exact .not rfl|exact .pickT rfl rfl|exact .pickF rfl rfl|exact .buildC rfl rfl|exact .indexC _ rfl rfl rfl (by omega)|exact .indexC 0 rfl rfl rfl (by omega)|exact .indexC 1 rfl rfl rfl (by omega)|exact .indexC 2 rfl rfl rfl (by omega)|exact .indexArrC _ rfl rfl rfl (by omega)|exact .indexArrC 0 rfl rfl rfl (by omega)|exact .indexArrC 1 rfl rfl rfl (by omega)|exact .indexArrC 2 rfl rfl rfl (by omega)|exact .add _ rfl rfl (wrap_i64 (by omega))|exact .sub _ rfl rfl (wrap_i64 (by omega))|exact .rem _ rfl rfl (by decide) (Int.tmod_eq_emod_of_nonneg (by omega))|exact .cmpT rfl rfl rfl (by unfold cmpP;omega)|exact .cmpF rfl rfl rfl (by unfold cmpP;omega)|fail)|fail)
      refine C.cut (fun L w2 => ∃ (out' : List Pr) (done' : Bool) (vo' : Value), L = [(0, .slice (some ⟨bb, o, none⟩) l.length c), (1, str k), (2, str x), (8, vo'), (9, .bool fresh), (10, .bool done'), (11, .int .i64 i), (12, .slice (some ⟨bb, o, none⟩) l.length c), (13, .int .i64 l.length), (14, .int .i64 i)] ∧ w2.ownsRow w.heap.size 79 2 vo' out'.length (sflat out') ∧ Keep Non w w2 ∧ out' ++ p :: rputF k x (l.drop (i + 1)) done' = rputF k x l false ∧ out'.length ≤ 2 * i + 1) ?_ ?_
      · cases done with
        | true =>
          rw [if_neg (by simp)] at hrng
          (repeat first|refine .seq ?_|refine .region ?_|refine .block ?_|refine .skip ?_|refine .ret ?_|refine .exit ?_|refine .yes rfl ?_|refine .no rfl ?_|refine .nil ?_|refine .go ?_|refine .thenExit ?_|refine .thenRet ?_|refine .inExit ?_|refine .outExit rfl ?_|refine .inNormal ?_|refine .inRet ?_|refine .off rfl rfl ?_|refine .offU rfl rfl rfl ?_|(apply W.y rfl rfl;first|exact .move rfl|exact .assign rfl|exact .fieldC rfl|exact .loadW rfl (by (first|apply Ld.oneC|apply Ld.two|apply Ld.three|apply Ld.four|apply Ld.five);repeat(first|assumption|exact Row.cell (by assumption) (by first|rfl|assumption)))|exact .nilCheck rfl|exact .lenC rfl|exact .lenStrC rfl|exact .extract rfl rfl|exact .not rfl|exact .pickT rfl rfl|exact .pickF rfl rfl|exact .buildC rfl rfl|exact .indexC _ rfl rfl rfl (by omega)|exact .indexC 0 rfl rfl rfl (by omega)|exact .indexC 1 rfl rfl rfl (by omega)|exact .indexC 2 rfl rfl rfl (by omega)|exact .indexArrC _ rfl rfl rfl (by omega)|exact .indexArrC 0 rfl rfl rfl (by omega)|exact .indexArrC 1 rfl rfl rfl (by omega)|exact .indexArrC 2 rfl rfl rfl (by omega)|exact .add _ rfl rfl (wrap_i64 (by omega))|exact .sub _ rfl rfl (wrap_i64 (by omega))|exact .rem _ rfl rfl (by decide) (Int.tmod_eq_emod_of_nonneg (by omega))|exact .cmpT rfl rfl rfl (by unfold cmpP;omega)|exact .cmpF rfl rfl rfl (by unfold cmpP;omega)|fail)|fail)
          exact E.meet _ ⟨out, true, _, rfl, hown, hk, hrng, by omega⟩ ⟨rfl, rfl, rfl, rfl, rfl, rfl, rfl, rfl, rfl, rfl, trivial⟩
        | false =>
          by_cases hkp : k < p.1
          · rw [if_pos ⟨rfl, hkp⟩] at hrng
            (repeat first|refine .seq ?_|refine .region ?_|refine .block ?_|refine .skip ?_|refine .ret ?_|refine .exit ?_|refine .yes rfl ?_|refine .no rfl ?_|refine .nil ?_|refine .go ?_|refine .thenExit ?_|refine .thenRet ?_|refine .inExit ?_|refine .outExit rfl ?_|refine .inNormal ?_|refine .inRet ?_|refine .off rfl rfl ?_|refine .offU rfl rfl rfl ?_|(apply W.y rfl rfl;first|exact .move rfl|exact .assign rfl|exact .fieldC rfl|exact .loadW rfl (by (first|apply Ld.oneC|apply Ld.two|apply Ld.three|apply Ld.four|apply Ld.five);repeat(first|assumption|exact Row.cell (by assumption) (by first|rfl|assumption)))|exact .nilCheck rfl|exact .lenC rfl|exact .lenStrC rfl|exact .extract rfl rfl|exact .not rfl|exact .pickT rfl rfl|exact .pickF rfl rfl|exact .buildC rfl rfl|exact .indexC _ rfl rfl rfl (by omega)|exact .indexC 0 rfl rfl rfl (by omega)|exact .indexC 1 rfl rfl rfl (by omega)|exact .indexC 2 rfl rfl rfl (by omega)|exact .indexArrC _ rfl rfl rfl (by omega)|exact .indexArrC 0 rfl rfl rfl (by omega)|exact .indexArrC 1 rfl rfl rfl (by omega)|exact .indexArrC 2 rfl rfl rfl (by omega)|exact .add _ rfl rfl (wrap_i64 (by omega))|exact .sub _ rfl rfl (wrap_i64 (by omega))|exact .rem _ rfl rfl (by decide) (Int.tmod_eq_emod_of_nonneg (by omega))|exact .cmpT rfl rfl rfl (by unfold cmpP;omega)|exact .cmpF rfl rfl rfl (by unfold cmpP;omega)|fail)|fail)
            refine W.y rfl rfl (Y.lssStrT hkp rfl rfl) ?_
            (repeat first|refine .seq ?_|refine .region ?_|refine .block ?_|refine .skip ?_|refine .ret ?_|refine .exit ?_|refine .yes rfl ?_|refine .no rfl ?_|refine .nil ?_|refine .go ?_|refine .thenExit ?_|refine .thenRet ?_|refine .inExit ?_|refine .outExit rfl ?_|refine .inNormal ?_|refine .inRet ?_|refine .off rfl rfl ?_|refine .offU rfl rfl rfl ?_|(apply W.y rfl rfl;first|exact .move rfl|exact .assign rfl|exact .fieldC rfl|exact .loadW rfl (by (first|apply Ld.oneC|apply Ld.two|apply Ld.three|apply Ld.four|apply Ld.five);repeat(first|assumption|exact Row.cell (by assumption) (by first|rfl|assumption)))|exact .nilCheck rfl|exact .lenC rfl|exact .lenStrC rfl|exact .extract rfl rfl|exact .not rfl|exact .pickT rfl rfl|exact .pickF rfl rfl|exact .buildC rfl rfl|exact .indexC _ rfl rfl rfl (by omega)|exact .indexC 0 rfl rfl rfl (by omega)|exact .indexC 1 rfl rfl rfl (by omega)|exact .indexC 2 rfl rfl rfl (by omega)|exact .indexArrC _ rfl rfl rfl (by omega)|exact .indexArrC 0 rfl rfl rfl (by omega)|exact .indexArrC 1 rfl rfl rfl (by omega)|exact .indexArrC 2 rfl rfl rfl (by omega)|exact .add _ rfl rfl (wrap_i64 (by omega))|exact .sub _ rfl rfl (wrap_i64 (by omega))|exact .rem _ rfl rfl (by decide) (Int.tmod_eq_emod_of_nonneg (by omega))|exact .cmpT rfl rfl rfl (by unfold cmpP;omega)|exact .cmpF rfl rfl rfl (by unfold cmpP;omega)|fail)|fail)
            refine W.st rfl rfl (St.lit (vs := [.agg #[str k, str x]]) rfl rfl (by omega) (fun v hv => by simp only [List.mem_singleton] at hv; subst hv; rfl)) (fun v7 w7 h7 => ?_)
            obtain ⟨b7, rfl, hN7⟩ := h7
            have ho7 := own_keep hN7.keep hown (fun _ _ => non_not _)
            have s7 := hN7.size
            refine W.st rfl rfl (St.appendC w.heap.size [str k, str x] rfl rfl ho7 (hN7.row.cells 0 _ rfl) rfl (one2 rfl rfl) (by omega) (by omega)) (fun v8 w8 h8 => ?_)
            obtain ⟨ho8, k8, h8b⟩ := h8
            have hlt7 := ho7.lt
            have k08 := (hk.then hN7.keep).far k8 (fun j hj => (hlt7 j hj.symm).1)
            rw [← sflat_snoc out ((k, x)), ← len_snoc out ((k, x))] at ho8
            (repeat first|refine .seq ?_|refine .region ?_|refine .block ?_|refine .skip ?_|refine .ret ?_|refine .exit ?_|refine .yes rfl ?_|refine .no rfl ?_|refine .nil ?_|refine .go ?_|refine .thenExit ?_|refine .thenRet ?_|refine .inExit ?_|refine .outExit rfl ?_|refine .inNormal ?_|refine .inRet ?_|refine .off rfl rfl ?_|refine .offU rfl rfl rfl ?_|(apply W.y rfl rfl;first|exact .move rfl|exact .assign rfl|exact .fieldC rfl|exact .loadW rfl (by (first|apply Ld.oneC|apply Ld.two|apply Ld.three|apply Ld.four|apply Ld.five);repeat(first|assumption|exact Row.cell (by assumption) (by first|rfl|assumption)))|exact .nilCheck rfl|exact .lenC rfl|exact .lenStrC rfl|exact .extract rfl rfl|exact .not rfl|exact .pickT rfl rfl|exact .pickF rfl rfl|exact .buildC rfl rfl|exact .indexC _ rfl rfl rfl (by omega)|exact .indexC 0 rfl rfl rfl (by omega)|exact .indexC 1 rfl rfl rfl (by omega)|exact .indexC 2 rfl rfl rfl (by omega)|exact .indexArrC _ rfl rfl rfl (by omega)|exact .indexArrC 0 rfl rfl rfl (by omega)|exact .indexArrC 1 rfl rfl rfl (by omega)|exact .indexArrC 2 rfl rfl rfl (by omega)|exact .add _ rfl rfl (wrap_i64 (by omega))|exact .sub _ rfl rfl (wrap_i64 (by omega))|exact .rem _ rfl rfl (by decide) (Int.tmod_eq_emod_of_nonneg (by omega))|exact .cmpT rfl rfl rfl (by unfold cmpP;omega)|exact .cmpF rfl rfl rfl (by unfold cmpP;omega)|fail)|fail)
            exact E.meet _ ⟨out ++ [(k, x)], true, _, rfl, ho8, k08, by rw [List.append_assoc]; exact hrng, by simp; omega⟩ ⟨rfl, rfl, rfl, rfl, rfl, rfl, rfl, rfl, rfl, rfl, trivial⟩
          · rw [if_neg (fun h => hkp h.2)] at hrng
            (repeat first|refine .seq ?_|refine .region ?_|refine .block ?_|refine .skip ?_|refine .ret ?_|refine .exit ?_|refine .yes rfl ?_|refine .no rfl ?_|refine .nil ?_|refine .go ?_|refine .thenExit ?_|refine .thenRet ?_|refine .inExit ?_|refine .outExit rfl ?_|refine .inNormal ?_|refine .inRet ?_|refine .off rfl rfl ?_|refine .offU rfl rfl rfl ?_|(apply W.y rfl rfl;first|exact .move rfl|exact .assign rfl|exact .fieldC rfl|exact .loadW rfl (by (first|apply Ld.oneC|apply Ld.two|apply Ld.three|apply Ld.four|apply Ld.five);repeat(first|assumption|exact Row.cell (by assumption) (by first|rfl|assumption)))|exact .nilCheck rfl|exact .lenC rfl|exact .lenStrC rfl|exact .extract rfl rfl|exact .not rfl|exact .pickT rfl rfl|exact .pickF rfl rfl|exact .buildC rfl rfl|exact .indexC _ rfl rfl rfl (by omega)|exact .indexC 0 rfl rfl rfl (by omega)|exact .indexC 1 rfl rfl rfl (by omega)|exact .indexC 2 rfl rfl rfl (by omega)|exact .indexArrC _ rfl rfl rfl (by omega)|exact .indexArrC 0 rfl rfl rfl (by omega)|exact .indexArrC 1 rfl rfl rfl (by omega)|exact .indexArrC 2 rfl rfl rfl (by omega)|exact .add _ rfl rfl (wrap_i64 (by omega))|exact .sub _ rfl rfl (wrap_i64 (by omega))|exact .rem _ rfl rfl (by decide) (Int.tmod_eq_emod_of_nonneg (by omega))|exact .cmpT rfl rfl rfl (by unfold cmpP;omega)|exact .cmpF rfl rfl rfl (by unfold cmpP;omega)|fail)|fail)
            refine W.y rfl rfl (Y.lssStrF hkp rfl rfl) ?_
            (repeat first|refine .seq ?_|refine .region ?_|refine .block ?_|refine .skip ?_|refine .ret ?_|refine .exit ?_|refine .yes rfl ?_|refine .no rfl ?_|refine .nil ?_|refine .go ?_|refine .thenExit ?_|refine .thenRet ?_|refine .inExit ?_|refine .outExit rfl ?_|refine .inNormal ?_|refine .inRet ?_|refine .off rfl rfl ?_|refine .offU rfl rfl rfl ?_|(apply W.y rfl rfl;first|exact .move rfl|exact .assign rfl|exact .fieldC rfl|exact .loadW rfl (by (first|apply Ld.oneC|apply Ld.two|apply Ld.three|apply Ld.four|apply Ld.five);repeat(first|assumption|exact Row.cell (by assumption) (by first|rfl|assumption)))|exact .nilCheck rfl|exact .lenC rfl|exact .lenStrC rfl|exact .extract rfl rfl|exact .not rfl|exact .pickT rfl rfl|exact .pickF rfl rfl|exact .buildC rfl rfl|exact .indexC _ rfl rfl rfl (by omega)|exact .indexC 0 rfl rfl rfl (by omega)|exact .indexC 1 rfl rfl rfl (by omega)|exact .indexC 2 rfl rfl rfl (by omega)|exact .indexArrC _ rfl rfl rfl (by omega)|exact .indexArrC 0 rfl rfl rfl (by omega)|exact .indexArrC 1 rfl rfl rfl (by omega)|exact .indexArrC 2 rfl rfl rfl (by omega)|exact .add _ rfl rfl (wrap_i64 (by omega))|exact .sub _ rfl rfl (wrap_i64 (by omega))|exact .rem _ rfl rfl (by decide) (Int.tmod_eq_emod_of_nonneg (by omega))|exact .cmpT rfl rfl rfl (by unfold cmpP;omega)|exact .cmpF rfl rfl rfl (by unfold cmpP;omega)|fail)|fail)
            exact E.meet _ ⟨out, false, _, rfl, hown, hk, hrng, by omega⟩ ⟨rfl, rfl, rfl, rfl, rfl, rfl, rfl, rfl, rfl, rfl, trivial⟩
      · clear hown hrng hol hk q0 q1
        rintro L w2 ⟨out', done', vo', rfl, hown, hk, hrng, hol⟩
        have q0 : w2.cell? ⟨bb, o + i * 2, none⟩ = some _ := hk.cell (hcs0 0 _ rfl) (non_not _)
        have q1 : w2.cell? ⟨bb, o + i * 2 + 1, none⟩ = some _ := hk.cell (hcs0 1 _ rfl) (non_not _)
        have s2 := hk.size
        (repeat first|refine .seq ?_|refine .region ?_|refine .block ?_|refine .skip ?_|refine .ret ?_|refine .exit ?_|refine .yes rfl ?_|refine .no rfl ?_|refine .nil ?_|refine .go ?_|refine .thenExit ?_|refine .thenRet ?_|refine .inExit ?_|refine .outExit rfl ?_|refine .inNormal ?_|refine .inRet ?_|refine .off rfl rfl ?_|refine .offU rfl rfl rfl ?_|(apply W.y rfl rfl;first|exact .move rfl|exact .assign rfl|exact .fieldC rfl|exact .loadW rfl (by (first|apply Ld.oneC|apply Ld.two|apply Ld.three|apply Ld.four|apply Ld.five);repeat(first|assumption|exact Row.cell (by assumption) (by first|rfl|assumption)))|exact .nilCheck rfl|exact .lenC rfl|exact .lenStrC rfl|exact .extract rfl rfl|exact .not rfl|exact .pickT rfl rfl|exact .pickF rfl rfl|exact .buildC rfl rfl|exact .indexC _ rfl rfl rfl (by omega)|exact .indexC 0 rfl rfl rfl (by omega)|exact .indexC 1 rfl rfl rfl (by omega)|exact .indexC 2 rfl rfl rfl (by omega)|exact .indexArrC _ rfl rfl rfl (by omega)|exact .indexArrC 0 rfl rfl rfl (by omega)|exact .indexArrC 1 rfl rfl rfl (by omega)|exact .indexArrC 2 rfl rfl rfl (by omega)|exact .add _ rfl rfl (wrap_i64 (by omega))|exact .sub _ rfl rfl (wrap_i64 (by omega))|exact .rem _ rfl rfl (by decide) (Int.tmod_eq_emod_of_nonneg (by omega))|exact .cmpT rfl rfl rfl (by unfold cmpP;omega)|exact .cmpF rfl rfl rfl (by unfold cmpP;omega)|fail)|fail)
        refine W.st rfl rfl (St.lit (vs := [.agg #[str p.1, str p.2]]) rfl rfl (by omega) (fun v hv => by simp only [List.mem_singleton] at hv; subst hv; rfl)) (fun v7 w7 h7 => ?_)
        obtain ⟨b7, rfl, hN7⟩ := h7
        have ho7 := own_keep hN7.keep hown (fun _ _ => non_not _)
        have s7 := hN7.size
        refine W.st rfl rfl (St.appendC w.heap.size [str p.1, str p.2] rfl rfl ho7 (hN7.row.cells 0 _ rfl) rfl (one2 rfl rfl) (by omega) (by omega)) (fun v8 w8 h8 => ?_)
        obtain ⟨ho8, k8, h8b⟩ := h8
        have hlt7 := ho7.lt
        have k08 := (hk.then hN7.keep).far k8 (fun j hj => (hlt7 j hj.symm).1)
        rw [← sflat_snoc out' (p), ← len_snoc out' (p)] at ho8
        (repeat first|refine .seq ?_|refine .region ?_|refine .block ?_|refine .skip ?_|refine .ret ?_|refine .exit ?_|refine .yes rfl ?_|refine .no rfl ?_|refine .nil ?_|refine .go ?_|refine .thenExit ?_|refine .thenRet ?_|refine .inExit ?_|refine .outExit rfl ?_|refine .inNormal ?_|refine .inRet ?_|refine .off rfl rfl ?_|refine .offU rfl rfl rfl ?_|(apply W.y rfl rfl;first|exact .move rfl|exact .assign rfl|exact .fieldC rfl|exact .loadW rfl (by (first|apply Ld.oneC|apply Ld.two|apply Ld.three|apply Ld.four|apply Ld.five);repeat(first|assumption|exact Row.cell (by assumption) (by first|rfl|assumption)))|exact .nilCheck rfl|exact .lenC rfl|exact .lenStrC rfl|exact .extract rfl rfl|exact .not rfl|exact .pickT rfl rfl|exact .pickF rfl rfl|exact .buildC rfl rfl|exact .indexC _ rfl rfl rfl (by omega)|exact .indexC 0 rfl rfl rfl (by omega)|exact .indexC 1 rfl rfl rfl (by omega)|exact .indexC 2 rfl rfl rfl (by omega)|exact .indexArrC _ rfl rfl rfl (by omega)|exact .indexArrC 0 rfl rfl rfl (by omega)|exact .indexArrC 1 rfl rfl rfl (by omega)|exact .indexArrC 2 rfl rfl rfl (by omega)|exact .add _ rfl rfl (wrap_i64 (by omega))|exact .sub _ rfl rfl (wrap_i64 (by omega))|exact .rem _ rfl rfl (by decide) (Int.tmod_eq_emod_of_nonneg (by omega))|exact .cmpT rfl rfl rfl (by unfold cmpP;omega)|exact .cmpF rfl rfl rfl (by unfold cmpP;omega)|fail)|fail)
        exact E.again _ _ (by omega) ⟨i + 1, out' ++ [p], fresh, done', _, rfl, rfl, by omega, ho8, k08, by rw [List.append_assoc]; exact hrng, hfr, by simp; omega⟩ ⟨rfl, rfl, rfl, rfl, rfl, rfl, rfl, rfl, some_int (by omega), trivial⟩
  · have e : i = l.length := by omega
    subst e
    rw [List.drop_length] at hrng hfr
    have e2 : (fresh && (getL k []).isNone) = fresh := by cases fresh <;> rfl
    rw [e2] at hfr
    subst hfr
    (repeat first|refine .seq ?_|refine .region ?_|refine .block ?_|refine .skip ?_|refine .ret ?_|refine .exit ?_|refine .yes rfl ?_|refine .no rfl ?_|refine .nil ?_|refine .go ?_|refine .thenExit ?_|refine .thenRet ?_|refine .inExit ?_|refine .outExit rfl ?_|refine .inNormal ?_|refine .inRet ?_|refine .off rfl rfl ?_|refine .offU rfl rfl rfl ?_|(apply W.y rfl rfl;first|exact .move rfl|exact .assign rfl|exact .fieldC rfl|exact .loadW rfl (by (first|apply Ld.oneC|apply Ld.two|apply Ld.three|apply Ld.four|apply Ld.five);repeat(first|assumption|exact Row.cell (by assumption) (by first|rfl|assumption)))|exact .nilCheck rfl|exact .lenC rfl|exact .lenStrC rfl|exact .extract rfl rfl|exact .not rfl|exact .pickT rfl rfl|exact .pickF rfl rfl|exact .buildC rfl rfl|exact .indexC _ rfl rfl rfl (by omega)|exact .indexC 0 rfl rfl rfl (by omega)|exact .indexC 1 rfl rfl rfl (by omega)|exact .indexC 2 rfl rfl rfl (by omega)|exact .indexArrC _ rfl rfl rfl (by omega)|exact .indexArrC 0 rfl rfl rfl (by omega)|exact .indexArrC 1 rfl rfl rfl (by omega)|exact .indexArrC 2 rfl rfl rfl (by omega)|exact .add _ rfl rfl (wrap_i64 (by omega))|exact .sub _ rfl rfl (wrap_i64 (by omega))|exact .rem _ rfl rfl (by decide) (Int.tmod_eq_emod_of_nonneg (by omega))|exact .cmpT rfl rfl rfl (by unfold cmpP;omega)|exact .cmpF rfl rfl rfl (by unfold cmpP;omega)|fail)|fail)
    cases done with
    | true =>
      rw [rputF, if_pos rfl, List.append_nil] at hrng
      (repeat first|refine .seq ?_|refine .region ?_|refine .block ?_|refine .skip ?_|refine .ret ?_|refine .exit ?_|refine .yes rfl ?_|refine .no rfl ?_|refine .nil ?_|refine .go ?_|refine .thenExit ?_|refine .thenRet ?_|refine .inExit ?_|refine .outExit rfl ?_|refine .inNormal ?_|refine .inRet ?_|refine .off rfl rfl ?_|refine .offU rfl rfl rfl ?_|(apply W.y rfl rfl;first|exact .move rfl|exact .assign rfl|exact .fieldC rfl|exact .loadW rfl (by (first|apply Ld.oneC|apply Ld.two|apply Ld.three|apply Ld.four|apply Ld.five);repeat(first|assumption|exact Row.cell (by assumption) (by first|rfl|assumption)))|exact .nilCheck rfl|exact .lenC rfl|exact .lenStrC rfl|exact .extract rfl rfl|exact .not rfl|exact .pickT rfl rfl|exact .pickF rfl rfl|exact .buildC rfl rfl|exact .indexC _ rfl rfl rfl (by omega)|exact .indexC 0 rfl rfl rfl (by omega)|exact .indexC 1 rfl rfl rfl (by omega)|exact .indexC 2 rfl rfl rfl (by omega)|exact .indexArrC _ rfl rfl rfl (by omega)|exact .indexArrC 0 rfl rfl rfl (by omega)|exact .indexArrC 1 rfl rfl rfl (by omega)|exact .indexArrC 2 rfl rfl rfl (by omega)|exact .add _ rfl rfl (wrap_i64 (by omega))|exact .sub _ rfl rfl (wrap_i64 (by omega))|exact .rem _ rfl rfl (by decide) (Int.tmod_eq_emod_of_nonneg (by omega))|exact .cmpT rfl rfl rfl (by unfold cmpP;omega)|exact .cmpF rfl rfl rfl (by unfold cmpP;omega)|fail)|fail)
      rw [← hrng]
      exact E.ret2 rfl rfl rfl ⟨_, rfl, SPairs.of_own hown rfl (by omega) (fun b hb => hown.lt b hb), hk⟩
    | false =>
      rw [rputF, if_neg (by simp)] at hrng
      (repeat first|refine .seq ?_|refine .region ?_|refine .block ?_|refine .skip ?_|refine .ret ?_|refine .exit ?_|refine .yes rfl ?_|refine .no rfl ?_|refine .nil ?_|refine .go ?_|refine .thenExit ?_|refine .thenRet ?_|refine .inExit ?_|refine .outExit rfl ?_|refine .inNormal ?_|refine .inRet ?_|refine .off rfl rfl ?_|refine .offU rfl rfl rfl ?_|(apply W.y rfl rfl;first|exact .move rfl|exact .assign rfl|exact .fieldC rfl|exact .loadW rfl (by (first|apply Ld.oneC|apply Ld.two|apply Ld.three|apply Ld.four|apply Ld.five);repeat(first|assumption|exact Row.cell (by assumption) (by first|rfl|assumption)))|exact .nilCheck rfl|exact .lenC rfl|exact .lenStrC rfl|exact .extract rfl rfl|exact .not rfl|exact .pickT rfl rfl|exact .pickF rfl rfl|exact .buildC rfl rfl|exact .indexC _ rfl rfl rfl (by omega)|exact .indexC 0 rfl rfl rfl (by omega)|exact .indexC 1 rfl rfl rfl (by omega)|exact .indexC 2 rfl rfl rfl (by omega)|exact .indexArrC _ rfl rfl rfl (by omega)|exact .indexArrC 0 rfl rfl rfl (by omega)|exact .indexArrC 1 rfl rfl rfl (by omega)|exact .indexArrC 2 rfl rfl rfl (by omega)|exact .add _ rfl rfl (wrap_i64 (by omega))|exact .sub _ rfl rfl (wrap_i64 (by omega))|exact .rem _ rfl rfl (by decide) (Int.tmod_eq_emod_of_nonneg (by omega))|exact .cmpT rfl rfl rfl (by unfold cmpP;omega)|exact .cmpF rfl rfl rfl (by unfold cmpP;omega)|fail)|fail)
      refine W.st rfl rfl (St.lit (vs := [.agg #[str k, str x]]) rfl rfl (by omega) (fun v hv => by simp only [List.mem_singleton] at hv; subst hv; rfl)) (fun v7 w7 h7 => ?_)
      obtain ⟨b7, rfl, hN7⟩ := h7
      have ho7 := own_keep hN7.keep hown (fun _ _ => non_not _)
      have s7 := hN7.size
      refine W.st rfl rfl (St.appendC w.heap.size [str k, str x] rfl rfl ho7 (hN7.row.cells 0 _ rfl) rfl (one2 rfl rfl) (by omega) (by omega)) (fun v8 w8 h8 => ?_)
      obtain ⟨ho8, k8, h8b⟩ := h8
      have hlt7 := ho7.lt
      have k08 := (hk.then hN7.keep).far k8 (fun j hj => (hlt7 j hj.symm).1)
      rw [← sflat_snoc out ((k, x)), ← len_snoc out ((k, x))] at ho8
      (repeat first|refine .seq ?_|refine .region ?_|refine .block ?_|refine .skip ?_|refine .ret ?_|refine .exit ?_|refine .yes rfl ?_|refine .no rfl ?_|refine .nil ?_|refine .go ?_|refine .thenExit ?_|refine .thenRet ?_|refine .inExit ?_|refine .outExit rfl ?_|refine .inNormal ?_|refine .inRet ?_|refine .off rfl rfl ?_|refine .offU rfl rfl rfl ?_|(apply W.y rfl rfl;first|exact .move rfl|exact .assign rfl|exact .fieldC rfl|exact .loadW rfl (by (first|apply Ld.oneC|apply Ld.two|apply Ld.three|apply Ld.four|apply Ld.five);repeat(first|assumption|exact Row.cell (by assumption) (by first|rfl|assumption)))|exact .nilCheck rfl|exact .lenC rfl|exact .lenStrC rfl|exact .extract rfl rfl|exact .not rfl|exact .pickT rfl rfl|exact .pickF rfl rfl|exact .buildC rfl rfl|exact .indexC _ rfl rfl rfl (by omega)|exact .indexC 0 rfl rfl rfl (by omega)|exact .indexC 1 rfl rfl rfl (by omega)|exact .indexC 2 rfl rfl rfl (by omega)|exact .indexArrC _ rfl rfl rfl (by omega)|exact .indexArrC 0 rfl rfl rfl (by omega)|exact .indexArrC 1 rfl rfl rfl (by omega)|exact .indexArrC 2 rfl rfl rfl (by omega)|exact .add _ rfl rfl (wrap_i64 (by omega))|exact .sub _ rfl rfl (wrap_i64 (by omega))|exact .rem _ rfl rfl (by decide) (Int.tmod_eq_emod_of_nonneg (by omega))|exact .cmpT rfl rfl rfl (by unfold cmpP;omega)|exact .cmpF rfl rfl rfl (by unfold cmpP;omega)|fail)|fail)
      rw [← hrng]
      exact E.ret2 rfl rfl rfl ⟨_, rfl, SPairs.of_own ho8 rfl (by simp; omega) (fun b hb => ho8.lt b hb), k08⟩
end Go.Proofs.Ytmneommbdfapfaa
