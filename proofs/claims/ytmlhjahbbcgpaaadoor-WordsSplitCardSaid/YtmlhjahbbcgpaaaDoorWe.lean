/- words.Split: one rune's walk. -/
import Derived.Test.YtmlhjahbbcgpaaaDoorWd
namespace Go.Proofs.YtmlhjahbbcgpaaaDoor
open Vb Go.RowKit

section
variable {P : Program} {n : Nat} {L : FL} {S : World → Prop} {ty : TypeId} {x y : Operand} {t t' : TypeId} {a b : Bs}
theorem Y.eqlStrT (h : a = b) (hx : ev L x = some (str a)) (hy : ev L y = some (str b)) : Y P n L S (.binOp .eql t x y t') ty (.bool true) := by
  have := Y.eqlStr (P := P) (n := n) (S := S) (ty := ty) (t := t) (t' := t') hx hy
  simpa [h] using this
theorem Y.eqlStrF (h : a ≠ b) (hx : ev L x = some (str a)) (hy : ev L y = some (str b)) : Y P n L S (.binOp .eql t x y t') ty (.bool false) := by
  have := Y.eqlStr (P := P) (n := n) (S := S) (ty := ty) (t := t) (t' := t') hx hy
  have e : (a == b) = false := beq_eq_false_iff_ne.2 h
  simpa [e] using this
theorem Y.neqStrT (h : a ≠ b) (hx : ev L x = some (str a)) (hy : ev L y = some (str b)) : Y P n L S (.binOp .neq t x y t') ty (.bool true) := by
  have := Y.neqStr (P := P) (n := n) (S := S) (ty := ty) (t := t) (t' := t') hx hy
  have e : (a == b) = false := beq_eq_false_iff_ne.2 h
  simpa [e] using this
theorem Y.neqStrF' (h : a = b) (hx : ev L x = some (str a)) (hy : ev L y = some (str b)) : Y P n L S (.binOp .neq t x y t') ty (.bool false) := by
  have := Y.neqStr (P := P) (n := n) (S := S) (ty := ty) (t := t) (t' := t') hx hy
  simpa [h] using this
end
/-- What Split's variables hold. -/
structure SS (w : World) (base bb ba N : Nat) (vo : Value) (M : MS) : Prop where
  own : w.ownsRow base 39 4 vo M.out.length (wflat M.out)
  rb : Row w bb 50 [.int .i64 M.bad.1, .int .i64 M.bad.2]
  ra : Row w ba 50 [.int .i64 M.at_.1, .int .i64 M.at_.2]
  ne : bb ≠ ba
  lb : bb < base ∧ ba < base
  hs : base ≤ w.heap.size
  op : M.open_ = true → M.out ≠ []
  bd : M.at_.1 ≤ N ∧ M.at_.2 ≤ N ∧ M.out.length ≤ N ∧ M.lastOf.text.length ≤ N
abbrev SK (base bb ba : Nat) : Nat → Prop := fun k => k = bb ∨ k = ba ∨ base ≤ k
theorem SS.up {w w' : World} {base bb ba N : Nat} {vo : Value} {M : MS} (h : SS w base bb ba N vo M) (k : Keep Non w w') : SS w' base bb ba N vo M :=
  ⟨own_keep k h.own (fun _ _ => non_not _), h.rb.keep k (non_not _), h.ra.keep k (non_not _), h.ne, h.lb, Nat.le_trans h.hs k.size, h.op, h.bd⟩
def lastLen (l : List WV) : Nat := (l.getLast?.getD ⟨false, [], 0, 0⟩).text.length
theorem SS.mk' {w : World} {base bb ba N : Nat} {vo : Value} {out : List WV} {bad at_ : Nat × Nat} {remark open_ : Bool} (own : w.ownsRow base 39 4 vo out.length (wflat out)) (rb : Row w bb 50 [.int .i64 bad.1, .int .i64 bad.2]) (ra : Row w ba 50 [.int .i64 at_.1, .int .i64 at_.2]) (ne : bb ≠ ba) (lb : bb < base ∧ ba < base) (hs : base ≤ w.heap.size) (op : open_ = true → out ≠ []) (bd : at_.1 ≤ N ∧ at_.2 ≤ N ∧ out.length ≤ N ∧ lastLen out ≤ N) : SS w base bb ba N vo ⟨out, bad, at_, remark, open_⟩ := ⟨own, rb, ra, ne, lb, hs, op, bd⟩
theorem lastLen_snoc (l : List WV) (x : WV) : lastLen (l ++ [x]) = x.text.length := by simp [lastLen]
theorem open_step (M : MS) (c : Nat) : (M.step c).open_ = (isL c && !M.remark) := by
  unfold MS.step
  cases M.remark <;> cases isL c <;> simp <;> repeat' split
  all_goals rfl
theorem lastOf_snoc (M : MS) (l : List WV) (x : WV) (h : M.out = l ++ [x]) : M.lastOf = x := by simp [MS.lastOf, h]
abbrev pt (b : Nat) : Value := .pointer (some ⟨b, 0, none⟩)

section
variable (w : World) (base bb ba N : Nat) (vo v0 v23 : Value) (M : MS) (c : Nat)
set_option maxHeartbeats 3200000 in
theorem split_letter (h : SS w base bb ba N vo M) (hN : N ≤ 100000) (hr : M.remark = false) (hL : isL c = true) :
    C Tryd.prog 163 (pc [1,1,1,1,1,1,0,1,0,0,1,1,0,1,1,1,0,0] Tryd.f9) (Post 163 (fun e L' w' => e = .normal ∧ ∃ vo', L' = [(0, v0), (6, vo'), (7, pt bb), (8, pt ba), (9, .bool (M.step c).remark), (12, .int .i32 c), (15, .bool (isL c && !M.remark)), (23, v23)] ∧ SS w' base bb ba (N + 1) vo' { M.step c with at_ := M.at_ } ∧ Keep (SK base bb ba) w w')) [(0, v0), (6, vo), (7, pt bb), (8, pt ba), (9, .bool M.remark), (10, .bool M.open_), (12, .int .i32 c), (15, .bool (isL c && !M.remark)), (23, v23)] w := by
  obtain ⟨own, rb, ra, ne, lb, hs, op, bd⟩ := h
  obtain ⟨out, bad, at_, remark, open_⟩ := M
  simp only at own rb ra op hr ⊢
  have bd : at_.1 ≤ N ∧ at_.2 ≤ N ∧ out.length ≤ N ∧ lastLen out ≤ N := bd
  subst hr
  have q0 := rb.cell (j := 0) rfl
  have q1 := rb.cell (j := 1) rfl
  have q2 := ra.cell (j := 0) rfl
  have q3 := ra.cell (j := 1) rfl
  have hcr : 97 ≤ c ∧ c ≤ 122 := by simpa [isL] using hL
  rw [hL, Bool.not_false, Bool.and_true]
  cases open_ with
  | false =>
    have e : (MS.mk out bad at_ false false).step c = { out := out ++ [⟨true, [UInt8.ofNat c], at_.1, at_.2⟩], bad := bad, at_ := stepP at_ c, remark := false, open_ := true } := by simp [MS.step, hL]
    rw [e]
    simp only
    obtain ⟨A, cp, rfl⟩ := own_shape own
    (repeat first|refine .seq ?_|refine .region ?_|refine .block ?_|refine .skip ?_|refine .ret ?_|refine .exit ?_|refine .yes rfl ?_|refine .no rfl ?_|refine .nil ?_|refine .go ?_|refine .thenExit ?_|refine .thenRet ?_|refine .inExit ?_|refine .outExit rfl ?_|refine .inNormal ?_|refine .inRet ?_|refine .off rfl rfl ?_|refine .offU rfl rfl rfl ?_|(apply W.y rfl rfl;first|exact .move rfl|exact .assign rfl|exact .fieldC rfl|exact .loadW rfl (by (first|apply Ld.oneC|apply Ld.two|apply Ld.three|apply Ld.four|apply Ld.five);repeat(first|assumption|exact Row.cell (by assumption) (by first|rfl|assumption)))|exact .nilCheck rfl|exact .lenC rfl|exact .lenStrC rfl|exact .extract rfl rfl|exact .not rfl|exact .pickT rfl rfl|exact .pickF rfl rfl|exact .buildC rfl rfl|exact .indexC _ rfl rfl rfl (by omega)|exact .indexC 0 rfl rfl rfl (by omega)|exact .indexC 1 rfl rfl rfl (by omega)|exact .indexC 2 rfl rfl rfl (by omega)|exact .indexArrC _ rfl rfl rfl (by omega)|exact .indexArrC 0 rfl rfl rfl (by omega)|exact .indexArrC 1 rfl rfl rfl (by omega)|exact .indexArrC 2 rfl rfl rfl (by omega)|exact .add _ rfl rfl (wrap_i64 (by omega))|exact .sub _ rfl rfl (wrap_i64 (by omega))|exact .rem _ rfl rfl (by decide) (Int.tmod_eq_emod_of_nonneg (by omega))|exact .cmpT rfl rfl rfl (by unfold cmpP;omega)|exact .cmpF rfl rfl rfl (by unfold cmpP;omega)|fail)|fail)
    refine W.y rfl rfl (Y.runeStr rfl (by omega)) ?_
    (repeat first|refine .seq ?_|refine .region ?_|refine .block ?_|refine .skip ?_|refine .ret ?_|refine .exit ?_|refine .yes rfl ?_|refine .no rfl ?_|refine .nil ?_|refine .go ?_|refine .thenExit ?_|refine .thenRet ?_|refine .inExit ?_|refine .outExit rfl ?_|refine .inNormal ?_|refine .inRet ?_|refine .off rfl rfl ?_|refine .offU rfl rfl rfl ?_|(apply W.y rfl rfl;first|exact .move rfl|exact .assign rfl|exact .fieldC rfl|exact .loadW rfl (by (first|apply Ld.oneC|apply Ld.two|apply Ld.three|apply Ld.four|apply Ld.five);repeat(first|assumption|exact Row.cell (by assumption) (by first|rfl|assumption)))|exact .nilCheck rfl|exact .lenC rfl|exact .lenStrC rfl|exact .extract rfl rfl|exact .not rfl|exact .pickT rfl rfl|exact .pickF rfl rfl|exact .buildC rfl rfl|exact .indexC _ rfl rfl rfl (by omega)|exact .indexC 0 rfl rfl rfl (by omega)|exact .indexC 1 rfl rfl rfl (by omega)|exact .indexC 2 rfl rfl rfl (by omega)|exact .indexArrC _ rfl rfl rfl (by omega)|exact .indexArrC 0 rfl rfl rfl (by omega)|exact .indexArrC 1 rfl rfl rfl (by omega)|exact .indexArrC 2 rfl rfl rfl (by omega)|exact .add _ rfl rfl (wrap_i64 (by omega))|exact .sub _ rfl rfl (wrap_i64 (by omega))|exact .rem _ rfl rfl (by decide) (Int.tmod_eq_emod_of_nonneg (by omega))|exact .cmpT rfl rfl rfl (by unfold cmpP;omega)|exact .cmpF rfl rfl rfl (by unfold cmpP;omega)|fail)|fail)
    refine W.st rfl rfl (St.lit (vs := [.agg #[_, _, _, _]]) rfl rfl (by omega) (fun v hv => by simp only [List.mem_singleton] at hv; subst hv; rfl)) (fun v4 w4 h4 => ?_)
    obtain ⟨b4, rfl, hN4⟩ := h4
    have k14 := hN4.keep
    have own4 := own_keep k14 own (fun _ _ => non_not _)
    have s4 := hN4.size
    refine W.st rfl rfl (St.appendC base (wcells ⟨true, [UInt8.ofNat c], at_.1, at_.2⟩) rfl rfl own4 (hN4.row.cells 0 _ rfl) rfl (one4 rfl rfl rfl rfl) (by omega) (by omega)) (fun v5 w5 h5 => ?_)
    obtain ⟨own5, k5, d5⟩ := h5
    rw [← wflat_snoc, ← len_snoc out (⟨true, [UInt8.ofNat c], at_.1, at_.2⟩ : WV)] at own5
    have l4 := own4.lt
    have s5 := k5.size
    have rb5 := (rb.keep k14 (non_not _)).keep k5 (fun e => by have := l4 bb e.symm; omega)
    have ra5 := (ra.keep k14 (non_not _)).keep k5 (fun e => by have := l4 ba e.symm; omega)
    (repeat first|refine .seq ?_|refine .region ?_|refine .block ?_|refine .skip ?_|refine .ret ?_|refine .exit ?_|refine .yes rfl ?_|refine .no rfl ?_|refine .nil ?_|refine .go ?_|refine .thenExit ?_|refine .thenRet ?_|refine .inExit ?_|refine .outExit rfl ?_|refine .inNormal ?_|refine .inRet ?_|refine .off rfl rfl ?_|refine .offU rfl rfl rfl ?_|(apply W.y rfl rfl;first|exact .move rfl|exact .assign rfl|exact .fieldC rfl|exact .loadW rfl (by (first|apply Ld.oneC|apply Ld.two|apply Ld.three|apply Ld.four|apply Ld.five);repeat(first|assumption|exact Row.cell (by assumption) (by first|rfl|assumption)))|exact .nilCheck rfl|exact .lenC rfl|exact .lenStrC rfl|exact .extract rfl rfl|exact .not rfl|exact .pickT rfl rfl|exact .pickF rfl rfl|exact .buildC rfl rfl|exact .indexC _ rfl rfl rfl (by omega)|exact .indexC 0 rfl rfl rfl (by omega)|exact .indexC 1 rfl rfl rfl (by omega)|exact .indexC 2 rfl rfl rfl (by omega)|exact .indexArrC _ rfl rfl rfl (by omega)|exact .indexArrC 0 rfl rfl rfl (by omega)|exact .indexArrC 1 rfl rfl rfl (by omega)|exact .indexArrC 2 rfl rfl rfl (by omega)|exact .add _ rfl rfl (wrap_i64 (by omega))|exact .sub _ rfl rfl (wrap_i64 (by omega))|exact .rem _ rfl rfl (by decide) (Int.tmod_eq_emod_of_nonneg (by omega))|exact .cmpT rfl rfl rfl (by unfold cmpP;omega)|exact .cmpF rfl rfl rfl (by unfold cmpP;omega)|fail)|fail)
    exact E.endN _ ⟨rfl, _, rfl, SS.mk' own5 rb5 ra5 ne lb (by omega) (fun _ h => by simp at h) ⟨by omega, by omega, by rw [len_snoc]; omega, by rw [lastLen_snoc]; show 1 ≤ _; omega⟩, k14.any.then (k5.mono (fun k _ e => .inr (.inr (l4 k e.symm).1)))⟩ ⟨rfl, rfl, rfl, rfl, rfl, rfl, rfl, rfl, trivial⟩
  | true =>
    obtain ⟨pre, x, rfl⟩ : ∃ pre x, out = pre ++ [x] := ⟨out.dropLast, out.getLast (op rfl), (List.dropLast_concat_getLast (op rfl)).symm⟩
    have hll : lastLen (pre ++ [x]) = x.text.length := lastLen_snoc pre x
    have e : (MS.mk (pre ++ [x]) bad at_ false true).step c = { out := grow c (pre ++ [x]), bad := if 16 < x.text.length + 1 ∧ bad.1 = 0 then (x.line, x.col) else bad, at_ := stepP at_ c, remark := false, open_ := true } := by simp [MS.step, hL, MS.lastOf]
    rw [e]
    simp only
    have hlen : (pre ++ [x]).length = pre.length + 1 := len_snoc pre x
    obtain ⟨g, cap, cur, rfl, hg, hrow, htk, hcl⟩ := own_row own (by omega)
    have hlt := hrow.lt
    have hcell : ∀ k v, k < 4 → (wcells x)[k]? = some v → cur[pre.length * 4 + k]? = some v := fun k v hk hv => by
      have h1 : (wflat (pre ++ [x]))[pre.length * 4 + k]? = some v := by
        rw [wflat_snoc, List.getElem?_append_right (by rw [wflat_length]; omega), wflat_length, Nat.add_sub_cancel_left]
        exact hv
      rw [← htk, List.getElem?_take_of_lt (by omega)] at h1
      exact h1
    have c1 : w.cell? ⟨g, 0 + pre.length * 4 + 1, none⟩ = some (str x.text) := hrow.cell (by rw [Nat.zero_add]; exact hcell 1 _ (by decide) rfl)
    have c2 : w.cell? ⟨g, 0 + pre.length * 4 + 2, none⟩ = some (.int .i64 x.line) := hrow.cell (by rw [Nat.zero_add]; exact hcell 2 _ (by decide) rfl)
    have c3 : w.cell? ⟨g, 0 + pre.length * 4 + 3, none⟩ = some (.int .i64 x.col) := hrow.cell (by rw [Nat.zero_add]; exact hcell 3 _ (by decide) rfl)
    (repeat first|refine .seq ?_|refine .region ?_|refine .block ?_|refine .skip ?_|refine .ret ?_|refine .exit ?_|refine .yes rfl ?_|refine .no rfl ?_|refine .nil ?_|refine .go ?_|refine .thenExit ?_|refine .thenRet ?_|refine .inExit ?_|refine .outExit rfl ?_|refine .inNormal ?_|refine .inRet ?_|refine .off rfl rfl ?_|refine .offU rfl rfl rfl ?_|(apply W.y rfl rfl;first|exact .move rfl|exact .assign rfl|exact .fieldC rfl|exact .loadW rfl (by (first|apply Ld.oneC|apply Ld.two|apply Ld.three|apply Ld.four|apply Ld.five);repeat(first|assumption|exact Row.cell (by assumption) (by first|rfl|assumption)))|exact .nilCheck rfl|exact .lenC rfl|exact .lenStrC rfl|exact .extract rfl rfl|exact .not rfl|exact .pickT rfl rfl|exact .pickF rfl rfl|exact .buildC rfl rfl|exact .indexC _ rfl rfl rfl (by omega)|exact .indexC 0 rfl rfl rfl (by omega)|exact .indexC 1 rfl rfl rfl (by omega)|exact .indexC 2 rfl rfl rfl (by omega)|exact .indexArrC _ rfl rfl rfl (by omega)|exact .indexArrC 0 rfl rfl rfl (by omega)|exact .indexArrC 1 rfl rfl rfl (by omega)|exact .indexArrC 2 rfl rfl rfl (by omega)|exact .add _ rfl rfl (wrap_i64 (by omega))|exact .sub _ rfl rfl (wrap_i64 (by omega))|exact .rem _ rfl rfl (by decide) (Int.tmod_eq_emod_of_nonneg (by omega))|exact .cmpT rfl rfl rfl (by unfold cmpP;omega)|exact .cmpF rfl rfl rfl (by unfold cmpP;omega)|fail)|fail)
    refine W.y rfl rfl (Y.indexC pre.length rfl rfl (by omega) (by omega)) ?_
    (repeat first|refine .seq ?_|refine .region ?_|refine .block ?_|refine .skip ?_|refine .ret ?_|refine .exit ?_|refine .yes rfl ?_|refine .no rfl ?_|refine .nil ?_|refine .go ?_|refine .thenExit ?_|refine .thenRet ?_|refine .inExit ?_|refine .outExit rfl ?_|refine .inNormal ?_|refine .inRet ?_|refine .off rfl rfl ?_|refine .offU rfl rfl rfl ?_|(apply W.y rfl rfl;first|exact .move rfl|exact .assign rfl|exact .fieldC rfl|exact .loadW rfl (by (first|apply Ld.oneC|apply Ld.two|apply Ld.three|apply Ld.four|apply Ld.five);repeat(first|assumption|exact Row.cell (by assumption) (by first|rfl|assumption)))|exact .nilCheck rfl|exact .lenC rfl|exact .lenStrC rfl|exact .extract rfl rfl|exact .not rfl|exact .pickT rfl rfl|exact .pickF rfl rfl|exact .buildC rfl rfl|exact .indexC _ rfl rfl rfl (by omega)|exact .indexC 0 rfl rfl rfl (by omega)|exact .indexC 1 rfl rfl rfl (by omega)|exact .indexC 2 rfl rfl rfl (by omega)|exact .indexArrC _ rfl rfl rfl (by omega)|exact .indexArrC 0 rfl rfl rfl (by omega)|exact .indexArrC 1 rfl rfl rfl (by omega)|exact .indexArrC 2 rfl rfl rfl (by omega)|exact .add _ rfl rfl (wrap_i64 (by omega))|exact .sub _ rfl rfl (wrap_i64 (by omega))|exact .rem _ rfl rfl (by decide) (Int.tmod_eq_emod_of_nonneg (by omega))|exact .cmpT rfl rfl rfl (by unfold cmpP;omega)|exact .cmpF rfl rfl rfl (by unfold cmpP;omega)|fail)|fail)
    refine W.y rfl rfl (Y.runeStr rfl (by omega)) ?_
    refine W.y rfl rfl (Y.addStr rfl rfl (by simp; omega)) ?_
    (repeat first|refine .seq ?_|refine .region ?_|refine .block ?_|refine .skip ?_|refine .ret ?_|refine .exit ?_|refine .yes rfl ?_|refine .no rfl ?_|refine .nil ?_|refine .go ?_|refine .thenExit ?_|refine .thenRet ?_|refine .inExit ?_|refine .outExit rfl ?_|refine .inNormal ?_|refine .inRet ?_|refine .off rfl rfl ?_|refine .offU rfl rfl rfl ?_|(apply W.y rfl rfl;first|exact .move rfl|exact .assign rfl|exact .fieldC rfl|exact .loadW rfl (by (first|apply Ld.oneC|apply Ld.two|apply Ld.three|apply Ld.four|apply Ld.five);repeat(first|assumption|exact Row.cell (by assumption) (by first|rfl|assumption)))|exact .nilCheck rfl|exact .lenC rfl|exact .lenStrC rfl|exact .extract rfl rfl|exact .not rfl|exact .pickT rfl rfl|exact .pickF rfl rfl|exact .buildC rfl rfl|exact .indexC _ rfl rfl rfl (by omega)|exact .indexC 0 rfl rfl rfl (by omega)|exact .indexC 1 rfl rfl rfl (by omega)|exact .indexC 2 rfl rfl rfl (by omega)|exact .indexArrC _ rfl rfl rfl (by omega)|exact .indexArrC 0 rfl rfl rfl (by omega)|exact .indexArrC 1 rfl rfl rfl (by omega)|exact .indexArrC 2 rfl rfl rfl (by omega)|exact .add _ rfl rfl (wrap_i64 (by omega))|exact .sub _ rfl rfl (wrap_i64 (by omega))|exact .rem _ rfl rfl (by decide) (Int.tmod_eq_emod_of_nonneg (by omega))|exact .cmpT rfl rfl rfl (by unfold cmpP;omega)|exact .cmpF rfl rfl rfl (by unfold cmpP;omega)|fail)|fail)
    refine W.st0 rfl (St.storeC rfl rfl rfl hrow (show _ + 1 ≤ _ by omega) (one1 rfl)) (fun v3 w3 h3 => ?_)
    have h3 : Put w w3 g 39 (splice cur (0 + pre.length * 4 + 1) [str (x.text ++ [UInt8.ofNat c])]) := h3
    have own3 := own_store own hrow h3 (show _ + 1 ≤ _ by omega)
    have hw : splice (wflat (pre ++ [x])) (0 + pre.length * 4 + 1) [str (x.text ++ [UInt8.ofNat c])] = wflat (grow c (pre ++ [x])) := by
      rw [Nat.zero_add]; exact wflat_grow c pre x
    rw [hw] at own3
    have own3 : w3.ownsRow base 39 4 (.slice (some ⟨g, 0, none⟩) (pre ++ [x]).length cap) (grow c (pre ++ [x])).length (wflat (grow c (pre ++ [x]))) := by rw [grow_length]; exact own3
    have hbbg : bb ≠ g := by omega
    have hbag : ba ≠ g := by omega
    have rb3 := rb.keep h3.keep (fun e => hbbg e)
    have ra3 := ra.keep h3.keep (fun e => hbag e)
    have s3 := h3.size
    have k3 := h3.keep.mono (T := SK base bb ba) (fun k _ e => .inr (.inr (by have e' : k = g := e; omega)))
    have r3 := h3.row
    have p0 := rb3.cell (j := 0) rfl
    have d1 : w3.cell? ⟨g, 0 + pre.length * 4 + 1, none⟩ = some (str (x.text ++ [UInt8.ofNat c])) := r3.cell (by rw [splice_get (show _ + 1 ≤ _ by omega), if_pos ⟨Nat.le_refl _, by simp⟩, Nat.sub_self]; rfl)
    have d2 : w3.cell? ⟨g, 0 + pre.length * 4 + 2, none⟩ = some (.int .i64 x.line) := r3.cell (by rw [splice_get (show _ + 1 ≤ _ by omega), if_neg (by simp), Nat.zero_add]; exact hcell 2 _ (by decide) rfl)
    have d3 : w3.cell? ⟨g, 0 + pre.length * 4 + 3, none⟩ = some (.int .i64 x.col) := r3.cell (by rw [splice_get (show _ + 1 ≤ _ by omega), if_neg (by simp), Nat.zero_add]; exact hcell 3 _ (by decide) rfl)
    have hsz : (⟨(x.text ++ [UInt8.ofNat c]).toArray⟩ : ByteArray).size = x.text.length + 1 := by rw [str_size]; simp
    have hbd : at_.1 ≤ N + 1 ∧ at_.2 ≤ N + 1 ∧ (grow c (pre ++ [x])).length ≤ N + 1 ∧ lastLen (grow c (pre ++ [x])) ≤ N + 1 := by
      refine ⟨by omega, by omega, by rw [grow_length]; omega, ?_⟩
      rw [grow_snoc, lastLen_snoc]
      show (x.text ++ [UInt8.ofNat c]).length ≤ _
      rw [List.length_append, List.length_singleton]; omega
    have hne : grow c (pre ++ [x]) ≠ [] := by rw [grow_snoc]; simp
    by_cases h16 : 16 < x.text.length + 1 ∧ bad.1 = 0
    · rw [if_pos h16]
      obtain ⟨h16, hb0⟩ := h16
      (repeat first|refine .seq ?_|refine .region ?_|refine .block ?_|refine .skip ?_|refine .ret ?_|refine .exit ?_|refine .yes rfl ?_|refine .no rfl ?_|refine .nil ?_|refine .go ?_|refine .thenExit ?_|refine .thenRet ?_|refine .inExit ?_|refine .outExit rfl ?_|refine .inNormal ?_|refine .inRet ?_|refine .off rfl rfl ?_|refine .offU rfl rfl rfl ?_|(apply W.y rfl rfl;first|exact .move rfl|exact .assign rfl|exact .fieldC rfl|exact .loadW rfl (by (first|apply Ld.oneC|apply Ld.two|apply Ld.three|apply Ld.four|apply Ld.five);repeat(first|assumption|exact Row.cell (by assumption) (by first|rfl|assumption)))|exact .nilCheck rfl|exact .lenC rfl|exact .lenStrC rfl|exact .extract rfl rfl|exact .not rfl|exact .pickT rfl rfl|exact .pickF rfl rfl|exact .buildC rfl rfl|exact .indexC _ rfl rfl rfl (by omega)|exact .indexC 0 rfl rfl rfl (by omega)|exact .indexC 1 rfl rfl rfl (by omega)|exact .indexC 2 rfl rfl rfl (by omega)|exact .indexArrC _ rfl rfl rfl (by omega)|exact .indexArrC 0 rfl rfl rfl (by omega)|exact .indexArrC 1 rfl rfl rfl (by omega)|exact .indexArrC 2 rfl rfl rfl (by omega)|exact .add _ rfl rfl (wrap_i64 (by omega))|exact .sub _ rfl rfl (wrap_i64 (by omega))|exact .rem _ rfl rfl (by decide) (Int.tmod_eq_emod_of_nonneg (by omega))|exact .cmpT rfl rfl rfl (by unfold cmpP;omega)|exact .cmpF rfl rfl rfl (by unfold cmpP;omega)|fail)|fail)
      refine C.draw 10 (fun wq => Keep Non w3 wq) [9] mixed rfl (fun w4 kw4 ew4 => ?_)
      ((refine .take 0 rfl (by kernel_rfl) rfl rfl (.move rfl) ?_); (refine .take 1 rfl (by kernel_rfl) rfl rfl (.nilCheck rfl) ?_); (refine .take 2 rfl (by kernel_rfl) rfl rfl (.fieldC rfl) ?_); (refine .read 3 rfl (by kernel_rfl) rfl rfl (by assumption) (.load rfl (fun w hw => (by (first|apply Ld.oneC|apply Ld.two|apply Ld.three|apply Ld.four|apply Ld.five);repeat(apply Keep.cell hw;(first|assumption|exact Row.cell (by assumption) (by first|rfl|assumption));first|exact non_not _|assumption|(intro e;omega)|(simp;omega))))) ?_); (refine .take 4 rfl (by kernel_rfl) rfl rfl (.move rfl) ?_); (refine .take 5 rfl (by kernel_rfl) rfl rfl (.nilCheck rfl) ?_); (refine .take 6 rfl (by kernel_rfl) rfl rfl (.fieldC rfl) ?_); (refine .read 7 rfl (by kernel_rfl) rfl rfl (by assumption) (.load rfl (fun w hw => (by (first|apply Ld.oneC|apply Ld.two|apply Ld.three|apply Ld.four|apply Ld.five);repeat(apply Keep.cell hw;(first|assumption|exact Row.cell (by assumption) (by first|rfl|assumption));first|exact non_not _|assumption|(intro e;omega)|(simp;omega))))) ?_); (refine .take 8 rfl (by kernel_rfl) rfl rfl (.buildC rfl rfl) ?_))
      have rb4 := rb3.keep kw4 (non_not _)
      refine D.one0 9 rfl (by kernel_rfl) rfl (St.storeC rfl rfl rfl rb4 (by simp [Value.cells]) (one2 rfl rfl)) (fun v5 w5 h5 => ⟨fun h => absurd h (by decide), ?_⟩)
      have rb5 : Row w5 bb 50 [_, _] := h5.row
      have ra5 := (ra3.keep kw4 (non_not _)).keep h5.keep (fun e => ne (by have e' : ba = bb := e; exact e'.symm))
      have own5 := own_keep h5.keep (own_keep kw4 own3 (fun _ _ => non_not _)) (fun b hb e => by have := ownB hb; have e' : b = bb := e; omega)
      have s4 := kw4.size
      have s5 := h5.size
      skip
      refine D.fin (by kernel_rfl) ?_
      (repeat first|refine .seq ?_|refine .region ?_|refine .block ?_|refine .skip ?_|refine .ret ?_|refine .exit ?_|refine .yes rfl ?_|refine .no rfl ?_|refine .nil ?_|refine .go ?_|refine .thenExit ?_|refine .thenRet ?_|refine .inExit ?_|refine .outExit rfl ?_|refine .inNormal ?_|refine .inRet ?_|refine .off rfl rfl ?_|refine .offU rfl rfl rfl ?_|(apply W.y rfl rfl;first|exact .move rfl|exact .assign rfl|exact .fieldC rfl|exact .loadW rfl (by (first|apply Ld.oneC|apply Ld.two|apply Ld.three|apply Ld.four|apply Ld.five);repeat(first|assumption|exact Row.cell (by assumption) (by first|rfl|assumption)))|exact .nilCheck rfl|exact .lenC rfl|exact .lenStrC rfl|exact .extract rfl rfl|exact .not rfl|exact .pickT rfl rfl|exact .pickF rfl rfl|exact .buildC rfl rfl|exact .indexC _ rfl rfl rfl (by omega)|exact .indexC 0 rfl rfl rfl (by omega)|exact .indexC 1 rfl rfl rfl (by omega)|exact .indexC 2 rfl rfl rfl (by omega)|exact .indexArrC _ rfl rfl rfl (by omega)|exact .indexArrC 0 rfl rfl rfl (by omega)|exact .indexArrC 1 rfl rfl rfl (by omega)|exact .indexArrC 2 rfl rfl rfl (by omega)|exact .add _ rfl rfl (wrap_i64 (by omega))|exact .sub _ rfl rfl (wrap_i64 (by omega))|exact .rem _ rfl rfl (by decide) (Int.tmod_eq_emod_of_nonneg (by omega))|exact .cmpT rfl rfl rfl (by unfold cmpP;omega)|exact .cmpF rfl rfl rfl (by unfold cmpP;omega)|fail)|fail)
      exact E.endN _ ⟨rfl, _, rfl, SS.mk' own5 rb5 ra5 ne lb (by omega) (fun _ => hne) hbd, (k3.then kw4.any).then (h5.keep.mono (fun k _ e => .inl e))⟩ ⟨rfl, rfl, rfl, rfl, rfl, rfl, rfl, rfl, trivial⟩
    · rw [if_neg h16]
      by_cases h17 : 16 < x.text.length + 1
      all_goals
        (repeat first|refine .seq ?_|refine .region ?_|refine .block ?_|refine .skip ?_|refine .ret ?_|refine .exit ?_|refine .yes rfl ?_|refine .no rfl ?_|refine .nil ?_|refine .go ?_|refine .thenExit ?_|refine .thenRet ?_|refine .inExit ?_|refine .outExit rfl ?_|refine .inNormal ?_|refine .inRet ?_|refine .off rfl rfl ?_|refine .offU rfl rfl rfl ?_|(apply W.y rfl rfl;first|exact .move rfl|exact .assign rfl|exact .fieldC rfl|exact .loadW rfl (by (first|apply Ld.oneC|apply Ld.two|apply Ld.three|apply Ld.four|apply Ld.five);repeat(first|assumption|exact Row.cell (by assumption) (by first|rfl|assumption)))|exact .nilCheck rfl|exact .lenC rfl|exact .lenStrC rfl|exact .extract rfl rfl|exact .not rfl|exact .pickT rfl rfl|exact .pickF rfl rfl|exact .buildC rfl rfl|exact .indexC _ rfl rfl rfl (by omega)|exact .indexC 0 rfl rfl rfl (by omega)|exact .indexC 1 rfl rfl rfl (by omega)|exact .indexC 2 rfl rfl rfl (by omega)|exact .indexArrC _ rfl rfl rfl (by omega)|exact .indexArrC 0 rfl rfl rfl (by omega)|exact .indexArrC 1 rfl rfl rfl (by omega)|exact .indexArrC 2 rfl rfl rfl (by omega)|exact .add _ rfl rfl (wrap_i64 (by omega))|exact .sub _ rfl rfl (wrap_i64 (by omega))|exact .rem _ rfl rfl (by decide) (Int.tmod_eq_emod_of_nonneg (by omega))|exact .cmpT rfl rfl rfl (by unfold cmpP;omega)|exact .cmpF rfl rfl rfl (by unfold cmpP;omega)|fail)|fail)
        exact E.endN _ ⟨rfl, _, rfl, SS.mk' own3 rb3 ra3 ne lb (by omega) (fun _ => hne) hbd, k3⟩ ⟨rfl, rfl, rfl, rfl, rfl, rfl, rfl, rfl, trivial⟩
set_option maxHeartbeats 3200000 in
theorem split_other (h : SS w base bb ba N vo M) (hN : N ≤ 100000) (hx : M.remark = true ∨ isL c = false) :
    C Tryd.prog 163 (pc [1,1,1,1,1,1,0,1,0,0,1,1,0,1,1,1,0,0] Tryd.f9) (Post 163 (fun e L' w' => e = .normal ∧ ∃ vo', L' = [(0, v0), (6, vo'), (7, pt bb), (8, pt ba), (9, .bool (M.step c).remark), (12, .int .i32 c), (15, .bool (isL c && !M.remark)), (23, v23)] ∧ SS w' base bb ba (N + 1) vo' { M.step c with at_ := M.at_ } ∧ Keep (SK base bb ba) w w')) [(0, v0), (6, vo), (7, pt bb), (8, pt ba), (9, .bool M.remark), (10, .bool M.open_), (12, .int .i32 c), (15, .bool (isL c && !M.remark)), (23, v23)] w := by
  obtain ⟨own, rb, ra, ne, lb, hs, op, bd⟩ := h
  obtain ⟨out, bad, at_, remark, open_⟩ := M
  simp only at own rb ra op hx ⊢
  have bd : at_.1 ≤ N ∧ at_.2 ≤ N ∧ out.length ≤ N ∧ lastLen out ≤ N := bd
  have q0 := rb.cell (j := 0) rfl
  have q1 := rb.cell (j := 1) rfl
  have q2 := ra.cell (j := 0) rfl
  have q3 := ra.cell (j := 1) rfl
  cases remark with
  | true =>
    have e : (MS.mk out bad at_ true open_).step c = { out := out, bad := bad, at_ := stepP at_ c, remark := c != 10, open_ := false } := by simp [MS.step]
    rw [e, Bool.not_true, Bool.and_false]
    simp only
    by_cases hc : c = 10
    · have e2 : (c != 10) = false := by simp [hc]
      rw [e2]
      (repeat first|refine .seq ?_|refine .region ?_|refine .block ?_|refine .skip ?_|refine .ret ?_|refine .exit ?_|refine .yes rfl ?_|refine .no rfl ?_|refine .nil ?_|refine .go ?_|refine .thenExit ?_|refine .thenRet ?_|refine .inExit ?_|refine .outExit rfl ?_|refine .inNormal ?_|refine .inRet ?_|refine .off rfl rfl ?_|refine .offU rfl rfl rfl ?_|(apply W.y rfl rfl;first|exact .move rfl|exact .assign rfl|exact .fieldC rfl|exact .loadW rfl (by (first|apply Ld.oneC|apply Ld.two|apply Ld.three|apply Ld.four|apply Ld.five);repeat(first|assumption|exact Row.cell (by assumption) (by first|rfl|assumption)))|exact .nilCheck rfl|exact .lenC rfl|exact .lenStrC rfl|exact .extract rfl rfl|exact .not rfl|exact .pickT rfl rfl|exact .pickF rfl rfl|exact .buildC rfl rfl|exact .indexC _ rfl rfl rfl (by omega)|exact .indexC 0 rfl rfl rfl (by omega)|exact .indexC 1 rfl rfl rfl (by omega)|exact .indexC 2 rfl rfl rfl (by omega)|exact .indexArrC _ rfl rfl rfl (by omega)|exact .indexArrC 0 rfl rfl rfl (by omega)|exact .indexArrC 1 rfl rfl rfl (by omega)|exact .indexArrC 2 rfl rfl rfl (by omega)|exact .add _ rfl rfl (wrap_i64 (by omega))|exact .sub _ rfl rfl (wrap_i64 (by omega))|exact .rem _ rfl rfl (by decide) (Int.tmod_eq_emod_of_nonneg (by omega))|exact .cmpT rfl rfl rfl (by unfold cmpP;omega)|exact .cmpF rfl rfl rfl (by unfold cmpP;omega)|fail)|fail)
      exact E.endN _ ⟨rfl, vo, rfl, SS.mk' own rb ra ne lb hs (fun h => (by cases h)) (by omega), Keep.refl _ _⟩ ⟨rfl, rfl, rfl, rfl, rfl, rfl, rfl, rfl, trivial⟩
    · have e2 : (c != 10) = true := by simp [hc]
      rw [e2]
      (repeat first|refine .seq ?_|refine .region ?_|refine .block ?_|refine .skip ?_|refine .ret ?_|refine .exit ?_|refine .yes rfl ?_|refine .no rfl ?_|refine .nil ?_|refine .go ?_|refine .thenExit ?_|refine .thenRet ?_|refine .inExit ?_|refine .outExit rfl ?_|refine .inNormal ?_|refine .inRet ?_|refine .off rfl rfl ?_|refine .offU rfl rfl rfl ?_|(apply W.y rfl rfl;first|exact .move rfl|exact .assign rfl|exact .fieldC rfl|exact .loadW rfl (by (first|apply Ld.oneC|apply Ld.two|apply Ld.three|apply Ld.four|apply Ld.five);repeat(first|assumption|exact Row.cell (by assumption) (by first|rfl|assumption)))|exact .nilCheck rfl|exact .lenC rfl|exact .lenStrC rfl|exact .extract rfl rfl|exact .not rfl|exact .pickT rfl rfl|exact .pickF rfl rfl|exact .buildC rfl rfl|exact .indexC _ rfl rfl rfl (by omega)|exact .indexC 0 rfl rfl rfl (by omega)|exact .indexC 1 rfl rfl rfl (by omega)|exact .indexC 2 rfl rfl rfl (by omega)|exact .indexArrC _ rfl rfl rfl (by omega)|exact .indexArrC 0 rfl rfl rfl (by omega)|exact .indexArrC 1 rfl rfl rfl (by omega)|exact .indexArrC 2 rfl rfl rfl (by omega)|exact .add _ rfl rfl (wrap_i64 (by omega))|exact .sub _ rfl rfl (wrap_i64 (by omega))|exact .rem _ rfl rfl (by decide) (Int.tmod_eq_emod_of_nonneg (by omega))|exact .cmpT rfl rfl rfl (by unfold cmpP;omega)|exact .cmpF rfl rfl rfl (by unfold cmpP;omega)|fail)|fail)
      exact E.endN _ ⟨rfl, vo, rfl, SS.mk' own rb ra ne lb hs (fun h => (by cases h)) (by omega), Keep.refl _ _⟩ ⟨rfl, rfl, rfl, rfl, rfl, rfl, rfl, rfl, trivial⟩
  | false =>
    have hL : isL c = false := by rcases hx with h | h; cases h; exact h
    rw [hL, Bool.false_and]
    by_cases h35 : c = 35
    · have e : (MS.mk out bad at_ false open_).step c = { out := out, bad := bad, at_ := stepP at_ c, remark := true, open_ := false } := by subst h35; simp [MS.step, isL]
      rw [e]
      simp only
      (repeat first|refine .seq ?_|refine .region ?_|refine .block ?_|refine .skip ?_|refine .ret ?_|refine .exit ?_|refine .yes rfl ?_|refine .no rfl ?_|refine .nil ?_|refine .go ?_|refine .thenExit ?_|refine .thenRet ?_|refine .inExit ?_|refine .outExit rfl ?_|refine .inNormal ?_|refine .inRet ?_|refine .off rfl rfl ?_|refine .offU rfl rfl rfl ?_|(apply W.y rfl rfl;first|exact .move rfl|exact .assign rfl|exact .fieldC rfl|exact .loadW rfl (by (first|apply Ld.oneC|apply Ld.two|apply Ld.three|apply Ld.four|apply Ld.five);repeat(first|assumption|exact Row.cell (by assumption) (by first|rfl|assumption)))|exact .nilCheck rfl|exact .lenC rfl|exact .lenStrC rfl|exact .extract rfl rfl|exact .not rfl|exact .pickT rfl rfl|exact .pickF rfl rfl|exact .buildC rfl rfl|exact .indexC _ rfl rfl rfl (by omega)|exact .indexC 0 rfl rfl rfl (by omega)|exact .indexC 1 rfl rfl rfl (by omega)|exact .indexC 2 rfl rfl rfl (by omega)|exact .indexArrC _ rfl rfl rfl (by omega)|exact .indexArrC 0 rfl rfl rfl (by omega)|exact .indexArrC 1 rfl rfl rfl (by omega)|exact .indexArrC 2 rfl rfl rfl (by omega)|exact .add _ rfl rfl (wrap_i64 (by omega))|exact .sub _ rfl rfl (wrap_i64 (by omega))|exact .rem _ rfl rfl (by decide) (Int.tmod_eq_emod_of_nonneg (by omega))|exact .cmpT rfl rfl rfl (by unfold cmpP;omega)|exact .cmpF rfl rfl rfl (by unfold cmpP;omega)|fail)|fail)
      exact E.endN _ ⟨rfl, vo, rfl, SS.mk' own rb ra ne lb hs (fun h => (by cases h)) (by omega), Keep.refl _ _⟩ ⟨rfl, rfl, rfl, rfl, rfl, rfl, rfl, rfl, trivial⟩
    · (repeat first|refine .seq ?_|refine .region ?_|refine .block ?_|refine .skip ?_|refine .ret ?_|refine .exit ?_|refine .yes rfl ?_|refine .no rfl ?_|refine .nil ?_|refine .go ?_|refine .thenExit ?_|refine .thenRet ?_|refine .inExit ?_|refine .outExit rfl ?_|refine .inNormal ?_|refine .inRet ?_|refine .off rfl rfl ?_|refine .offU rfl rfl rfl ?_|(apply W.y rfl rfl;first|exact .move rfl|exact .assign rfl|exact .fieldC rfl|exact .loadW rfl (by (first|apply Ld.oneC|apply Ld.two|apply Ld.three|apply Ld.four|apply Ld.five);repeat(first|assumption|exact Row.cell (by assumption) (by first|rfl|assumption)))|exact .nilCheck rfl|exact .lenC rfl|exact .lenStrC rfl|exact .extract rfl rfl|exact .not rfl|exact .pickT rfl rfl|exact .pickF rfl rfl|exact .buildC rfl rfl|exact .indexC _ rfl rfl rfl (by omega)|exact .indexC 0 rfl rfl rfl (by omega)|exact .indexC 1 rfl rfl rfl (by omega)|exact .indexC 2 rfl rfl rfl (by omega)|exact .indexArrC _ rfl rfl rfl (by omega)|exact .indexArrC 0 rfl rfl rfl (by omega)|exact .indexArrC 1 rfl rfl rfl (by omega)|exact .indexArrC 2 rfl rfl rfl (by omega)|exact .add _ rfl rfl (wrap_i64 (by omega))|exact .sub _ rfl rfl (wrap_i64 (by omega))|exact .rem _ rfl rfl (by decide) (Int.tmod_eq_emod_of_nonneg (by omega))|exact .cmpT rfl rfl rfl (by unfold cmpP;omega)|exact .cmpF rfl rfl rfl (by unfold cmpP;omega)|fail)|fail)
      refine W.st rfl rfl (St.callC rfl (sign_spec c w)) (fun v1 w1 h1 => ?_)
      obtain ⟨rfl, rfl⟩ := h1
      by_cases hsg : sgn c = []
      · refine W.y rfl rfl (Y.neqStrF' hsg rfl rfl) ?_
        (repeat first|refine .seq ?_|refine .region ?_|refine .block ?_|refine .skip ?_|refine .ret ?_|refine .exit ?_|refine .yes rfl ?_|refine .no rfl ?_|refine .nil ?_|refine .go ?_|refine .thenExit ?_|refine .thenRet ?_|refine .inExit ?_|refine .outExit rfl ?_|refine .inNormal ?_|refine .inRet ?_|refine .off rfl rfl ?_|refine .offU rfl rfl rfl ?_|(apply W.y rfl rfl;first|exact .move rfl|exact .assign rfl|exact .fieldC rfl|exact .loadW rfl (by (first|apply Ld.oneC|apply Ld.two|apply Ld.three|apply Ld.four|apply Ld.five);repeat(first|assumption|exact Row.cell (by assumption) (by first|rfl|assumption)))|exact .nilCheck rfl|exact .lenC rfl|exact .lenStrC rfl|exact .extract rfl rfl|exact .not rfl|exact .pickT rfl rfl|exact .pickF rfl rfl|exact .buildC rfl rfl|exact .indexC _ rfl rfl rfl (by omega)|exact .indexC 0 rfl rfl rfl (by omega)|exact .indexC 1 rfl rfl rfl (by omega)|exact .indexC 2 rfl rfl rfl (by omega)|exact .indexArrC _ rfl rfl rfl (by omega)|exact .indexArrC 0 rfl rfl rfl (by omega)|exact .indexArrC 1 rfl rfl rfl (by omega)|exact .indexArrC 2 rfl rfl rfl (by omega)|exact .add _ rfl rfl (wrap_i64 (by omega))|exact .sub _ rfl rfl (wrap_i64 (by omega))|exact .rem _ rfl rfl (by decide) (Int.tmod_eq_emod_of_nonneg (by omega))|exact .cmpT rfl rfl rfl (by unfold cmpP;omega)|exact .cmpF rfl rfl rfl (by unfold cmpP;omega)|fail)|fail)
        refine W.st rfl rfl (St.callC rfl (blank_spec c w1)) (fun v2 w2 h2 => ?_)
        obtain ⟨rfl, rfl⟩ := h2
        by_cases hbl : blank c = true
        · have e : (MS.mk out bad at_ false open_).step c = { out := out, bad := bad, at_ := stepP at_ c, remark := false, open_ := false } := by simp [MS.step, hL, h35, hsg, hbl]
          rw [e, hbl]
          simp only
          (repeat first|refine .seq ?_|refine .region ?_|refine .block ?_|refine .skip ?_|refine .ret ?_|refine .exit ?_|refine .yes rfl ?_|refine .no rfl ?_|refine .nil ?_|refine .go ?_|refine .thenExit ?_|refine .thenRet ?_|refine .inExit ?_|refine .outExit rfl ?_|refine .inNormal ?_|refine .inRet ?_|refine .off rfl rfl ?_|refine .offU rfl rfl rfl ?_|(apply W.y rfl rfl;first|exact .move rfl|exact .assign rfl|exact .fieldC rfl|exact .loadW rfl (by (first|apply Ld.oneC|apply Ld.two|apply Ld.three|apply Ld.four|apply Ld.five);repeat(first|assumption|exact Row.cell (by assumption) (by first|rfl|assumption)))|exact .nilCheck rfl|exact .lenC rfl|exact .lenStrC rfl|exact .extract rfl rfl|exact .not rfl|exact .pickT rfl rfl|exact .pickF rfl rfl|exact .buildC rfl rfl|exact .indexC _ rfl rfl rfl (by omega)|exact .indexC 0 rfl rfl rfl (by omega)|exact .indexC 1 rfl rfl rfl (by omega)|exact .indexC 2 rfl rfl rfl (by omega)|exact .indexArrC _ rfl rfl rfl (by omega)|exact .indexArrC 0 rfl rfl rfl (by omega)|exact .indexArrC 1 rfl rfl rfl (by omega)|exact .indexArrC 2 rfl rfl rfl (by omega)|exact .add _ rfl rfl (wrap_i64 (by omega))|exact .sub _ rfl rfl (wrap_i64 (by omega))|exact .rem _ rfl rfl (by decide) (Int.tmod_eq_emod_of_nonneg (by omega))|exact .cmpT rfl rfl rfl (by unfold cmpP;omega)|exact .cmpF rfl rfl rfl (by unfold cmpP;omega)|fail)|fail)
          exact E.endN _ ⟨rfl, vo, rfl, SS.mk' own rb ra ne lb hs (fun h => (by cases h)) (by omega), Keep.refl _ _⟩ ⟨rfl, rfl, rfl, rfl, rfl, rfl, rfl, rfl, trivial⟩
        · have hbl : blank c = false := by simpa using hbl
          by_cases hb0 : bad.1 = 0
          · have e : (MS.mk out bad at_ false open_).step c = { out := out, bad := at_, at_ := stepP at_ c, remark := false, open_ := false } := by simp [MS.step, hL, h35, hsg, hbl, hb0]
            rw [e, hbl]
            simp only
            (repeat first|refine .seq ?_|refine .region ?_|refine .block ?_|refine .skip ?_|refine .ret ?_|refine .exit ?_|refine .yes rfl ?_|refine .no rfl ?_|refine .nil ?_|refine .go ?_|refine .thenExit ?_|refine .thenRet ?_|refine .inExit ?_|refine .outExit rfl ?_|refine .inNormal ?_|refine .inRet ?_|refine .off rfl rfl ?_|refine .offU rfl rfl rfl ?_|(apply W.y rfl rfl;first|exact .move rfl|exact .assign rfl|exact .fieldC rfl|exact .loadW rfl (by (first|apply Ld.oneC|apply Ld.two|apply Ld.three|apply Ld.four|apply Ld.five);repeat(first|assumption|exact Row.cell (by assumption) (by first|rfl|assumption)))|exact .nilCheck rfl|exact .lenC rfl|exact .lenStrC rfl|exact .extract rfl rfl|exact .not rfl|exact .pickT rfl rfl|exact .pickF rfl rfl|exact .buildC rfl rfl|exact .indexC _ rfl rfl rfl (by omega)|exact .indexC 0 rfl rfl rfl (by omega)|exact .indexC 1 rfl rfl rfl (by omega)|exact .indexC 2 rfl rfl rfl (by omega)|exact .indexArrC _ rfl rfl rfl (by omega)|exact .indexArrC 0 rfl rfl rfl (by omega)|exact .indexArrC 1 rfl rfl rfl (by omega)|exact .indexArrC 2 rfl rfl rfl (by omega)|exact .add _ rfl rfl (wrap_i64 (by omega))|exact .sub _ rfl rfl (wrap_i64 (by omega))|exact .rem _ rfl rfl (by decide) (Int.tmod_eq_emod_of_nonneg (by omega))|exact .cmpT rfl rfl rfl (by unfold cmpP;omega)|exact .cmpF rfl rfl rfl (by unfold cmpP;omega)|fail)|fail)
            refine W.st0 rfl (St.storeC rfl rfl rfl rb (by simp [Value.cells]) (one2 rfl rfl)) (fun v3 w3 h3 => ?_)
            have rb3 : Row w3 bb 50 [_, _] := h3.row
            have ra3 := ra.keep h3.keep (fun e => ne (by have e' : ba = bb := e; exact e'.symm))
            have own3 := own_keep h3.keep own (fun b hb e => by have := own.lt b hb; have e' : b = bb := e; omega)
            have s3 := h3.size
            (repeat first|refine .seq ?_|refine .region ?_|refine .block ?_|refine .skip ?_|refine .ret ?_|refine .exit ?_|refine .yes rfl ?_|refine .no rfl ?_|refine .nil ?_|refine .go ?_|refine .thenExit ?_|refine .thenRet ?_|refine .inExit ?_|refine .outExit rfl ?_|refine .inNormal ?_|refine .inRet ?_|refine .off rfl rfl ?_|refine .offU rfl rfl rfl ?_|(apply W.y rfl rfl;first|exact .move rfl|exact .assign rfl|exact .fieldC rfl|exact .loadW rfl (by (first|apply Ld.oneC|apply Ld.two|apply Ld.three|apply Ld.four|apply Ld.five);repeat(first|assumption|exact Row.cell (by assumption) (by first|rfl|assumption)))|exact .nilCheck rfl|exact .lenC rfl|exact .lenStrC rfl|exact .extract rfl rfl|exact .not rfl|exact .pickT rfl rfl|exact .pickF rfl rfl|exact .buildC rfl rfl|exact .indexC _ rfl rfl rfl (by omega)|exact .indexC 0 rfl rfl rfl (by omega)|exact .indexC 1 rfl rfl rfl (by omega)|exact .indexC 2 rfl rfl rfl (by omega)|exact .indexArrC _ rfl rfl rfl (by omega)|exact .indexArrC 0 rfl rfl rfl (by omega)|exact .indexArrC 1 rfl rfl rfl (by omega)|exact .indexArrC 2 rfl rfl rfl (by omega)|exact .add _ rfl rfl (wrap_i64 (by omega))|exact .sub _ rfl rfl (wrap_i64 (by omega))|exact .rem _ rfl rfl (by decide) (Int.tmod_eq_emod_of_nonneg (by omega))|exact .cmpT rfl rfl rfl (by unfold cmpP;omega)|exact .cmpF rfl rfl rfl (by unfold cmpP;omega)|fail)|fail)
            exact E.endN _ ⟨rfl, vo, rfl, SS.mk' own3 rb3 ra3 ne lb (by omega) (fun h => (by cases h)) (by omega), h3.keep.mono (fun k _ e => .inl e)⟩ ⟨rfl, rfl, rfl, rfl, rfl, rfl, rfl, rfl, trivial⟩
          · have e : (MS.mk out bad at_ false open_).step c = { out := out, bad := bad, at_ := stepP at_ c, remark := false, open_ := false } := by simp [MS.step, hL, h35, hsg, hbl, hb0]
            rw [e, hbl]
            simp only
            (repeat first|refine .seq ?_|refine .region ?_|refine .block ?_|refine .skip ?_|refine .ret ?_|refine .exit ?_|refine .yes rfl ?_|refine .no rfl ?_|refine .nil ?_|refine .go ?_|refine .thenExit ?_|refine .thenRet ?_|refine .inExit ?_|refine .outExit rfl ?_|refine .inNormal ?_|refine .inRet ?_|refine .off rfl rfl ?_|refine .offU rfl rfl rfl ?_|(apply W.y rfl rfl;first|exact .move rfl|exact .assign rfl|exact .fieldC rfl|exact .loadW rfl (by (first|apply Ld.oneC|apply Ld.two|apply Ld.three|apply Ld.four|apply Ld.five);repeat(first|assumption|exact Row.cell (by assumption) (by first|rfl|assumption)))|exact .nilCheck rfl|exact .lenC rfl|exact .lenStrC rfl|exact .extract rfl rfl|exact .not rfl|exact .pickT rfl rfl|exact .pickF rfl rfl|exact .buildC rfl rfl|exact .indexC _ rfl rfl rfl (by omega)|exact .indexC 0 rfl rfl rfl (by omega)|exact .indexC 1 rfl rfl rfl (by omega)|exact .indexC 2 rfl rfl rfl (by omega)|exact .indexArrC _ rfl rfl rfl (by omega)|exact .indexArrC 0 rfl rfl rfl (by omega)|exact .indexArrC 1 rfl rfl rfl (by omega)|exact .indexArrC 2 rfl rfl rfl (by omega)|exact .add _ rfl rfl (wrap_i64 (by omega))|exact .sub _ rfl rfl (wrap_i64 (by omega))|exact .rem _ rfl rfl (by decide) (Int.tmod_eq_emod_of_nonneg (by omega))|exact .cmpT rfl rfl rfl (by unfold cmpP;omega)|exact .cmpF rfl rfl rfl (by unfold cmpP;omega)|fail)|fail)
            exact E.endN _ ⟨rfl, vo, rfl, SS.mk' own rb ra ne lb hs (fun h => (by cases h)) (by omega), Keep.refl _ _⟩ ⟨rfl, rfl, rfl, rfl, rfl, rfl, rfl, rfl, trivial⟩
      · have e : (MS.mk out bad at_ false open_).step c = { out := out ++ [⟨false, sgn c, at_.1, at_.2⟩], bad := bad, at_ := stepP at_ c, remark := false, open_ := false } := by simp [MS.step, hL, h35, hsg]
        rw [e]
        simp only
        have hsl : (sgn c).length ≤ 1 := by unfold sgn; split <;> (try split) <;> (try split) <;> simp
        refine W.y rfl rfl (Y.neqStrT hsg rfl rfl) ?_
        (repeat first|refine .seq ?_|refine .region ?_|refine .block ?_|refine .skip ?_|refine .ret ?_|refine .exit ?_|refine .yes rfl ?_|refine .no rfl ?_|refine .nil ?_|refine .go ?_|refine .thenExit ?_|refine .thenRet ?_|refine .inExit ?_|refine .outExit rfl ?_|refine .inNormal ?_|refine .inRet ?_|refine .off rfl rfl ?_|refine .offU rfl rfl rfl ?_|(apply W.y rfl rfl;first|exact .move rfl|exact .assign rfl|exact .fieldC rfl|exact .loadW rfl (by (first|apply Ld.oneC|apply Ld.two|apply Ld.three|apply Ld.four|apply Ld.five);repeat(first|assumption|exact Row.cell (by assumption) (by first|rfl|assumption)))|exact .nilCheck rfl|exact .lenC rfl|exact .lenStrC rfl|exact .extract rfl rfl|exact .not rfl|exact .pickT rfl rfl|exact .pickF rfl rfl|exact .buildC rfl rfl|exact .indexC _ rfl rfl rfl (by omega)|exact .indexC 0 rfl rfl rfl (by omega)|exact .indexC 1 rfl rfl rfl (by omega)|exact .indexC 2 rfl rfl rfl (by omega)|exact .indexArrC _ rfl rfl rfl (by omega)|exact .indexArrC 0 rfl rfl rfl (by omega)|exact .indexArrC 1 rfl rfl rfl (by omega)|exact .indexArrC 2 rfl rfl rfl (by omega)|exact .add _ rfl rfl (wrap_i64 (by omega))|exact .sub _ rfl rfl (wrap_i64 (by omega))|exact .rem _ rfl rfl (by decide) (Int.tmod_eq_emod_of_nonneg (by omega))|exact .cmpT rfl rfl rfl (by unfold cmpP;omega)|exact .cmpF rfl rfl rfl (by unfold cmpP;omega)|fail)|fail)
        obtain ⟨A, cp, rfl⟩ := own_shape own
        refine C.draw 11 (fun wq => Keep Non w1 wq) [9] mixed rfl (fun w2 kw2 ew2 => ?_)
        ((refine .take 0 rfl (by kernel_rfl) rfl rfl (.move rfl) ?_); (refine .take 1 rfl (by kernel_rfl) rfl rfl (.move rfl) ?_); (refine .take 3 rfl (by kernel_rfl) rfl rfl (.fieldC rfl) ?_); (refine .read 4 rfl (by kernel_rfl) rfl rfl (by assumption) (.load rfl (fun w hw => (by (first|apply Ld.oneC|apply Ld.two|apply Ld.three|apply Ld.four|apply Ld.five);repeat(apply Keep.cell hw;(first|assumption|exact Row.cell (by assumption) (by first|rfl|assumption));first|exact non_not _|assumption|(intro e;omega)|(simp;omega))))) ?_); (refine .take 5 rfl (by kernel_rfl) rfl rfl (.fieldC rfl) ?_); (refine .read 6 rfl (by kernel_rfl) rfl rfl (by assumption) (.load rfl (fun w hw => (by (first|apply Ld.oneC|apply Ld.two|apply Ld.three|apply Ld.four|apply Ld.five);repeat(apply Keep.cell hw;(first|assumption|exact Row.cell (by assumption) (by first|rfl|assumption));first|exact non_not _|assumption|(intro e;omega)|(simp;omega))))) ?_))
        refine D.one 2 rfl (by kernel_rfl) rfl rfl (St.callC rfl (sign_spec c w2)) (fun v3 w3 h3 => ⟨fun _ hS => by rw [h3.2]; exact hS, ?_⟩)
        obtain ⟨rfl, rfl⟩ := h3
        ((refine .take 7 rfl (by kernel_rfl) rfl rfl (.buildC rfl rfl) ?_))
        refine D.one 8 rfl (by kernel_rfl) rfl rfl (St.lit (vs := [.agg #[_, _, _, _]]) rfl rfl (by omega) (fun v hv => by simp only [List.mem_singleton] at hv; subst hv; rfl)) (fun v4 w4 h4 => ⟨fun _ hS => hS.then (by obtain ⟨_, _, hN⟩ := h4; exact hN.keep), ?_⟩)
        obtain ⟨b4, rfl, hN4⟩ := h4
        have k14 := kw2.then hN4.keep
        have own4 := own_keep k14 own (fun _ _ => non_not _)
        have s2 := kw2.size
        have s4 := hN4.size
        refine D.one 9 rfl (by kernel_rfl) rfl rfl (St.appendC base (wcells ⟨false, sgn c, at_.1, at_.2⟩) rfl rfl own4 (hN4.row.cells 0 _ rfl) rfl (one4 rfl rfl rfl rfl) (by omega) (by omega)) (fun v5 w5 h5 => ⟨fun h => absurd h (by decide), ?_⟩)
        obtain ⟨own5, k5, d5⟩ := h5
        rw [← wflat_snoc, ← len_snoc out (⟨false, sgn c, at_.1, at_.2⟩ : WV)] at own5
        have l4 := own4.lt
        have s5 := k5.size
        have rb5 := (rb.keep k14 (non_not _)).keep k5 (fun e => by have := l4 bb e.symm; omega)
        have ra5 := (ra.keep k14 (non_not _)).keep k5 (fun e => by have := l4 ba e.symm; omega)
        ((refine .take 10 rfl (by kernel_rfl) rfl rfl (.assign rfl) ?_))
        refine D.fin (by kernel_rfl) ?_
        (repeat first|refine .seq ?_|refine .region ?_|refine .block ?_|refine .skip ?_|refine .ret ?_|refine .exit ?_|refine .yes rfl ?_|refine .no rfl ?_|refine .nil ?_|refine .go ?_|refine .thenExit ?_|refine .thenRet ?_|refine .inExit ?_|refine .outExit rfl ?_|refine .inNormal ?_|refine .inRet ?_|refine .off rfl rfl ?_|refine .offU rfl rfl rfl ?_|(apply W.y rfl rfl;first|exact .move rfl|exact .assign rfl|exact .fieldC rfl|exact .loadW rfl (by (first|apply Ld.oneC|apply Ld.two|apply Ld.three|apply Ld.four|apply Ld.five);repeat(first|assumption|exact Row.cell (by assumption) (by first|rfl|assumption)))|exact .nilCheck rfl|exact .lenC rfl|exact .lenStrC rfl|exact .extract rfl rfl|exact .not rfl|exact .pickT rfl rfl|exact .pickF rfl rfl|exact .buildC rfl rfl|exact .indexC _ rfl rfl rfl (by omega)|exact .indexC 0 rfl rfl rfl (by omega)|exact .indexC 1 rfl rfl rfl (by omega)|exact .indexC 2 rfl rfl rfl (by omega)|exact .indexArrC _ rfl rfl rfl (by omega)|exact .indexArrC 0 rfl rfl rfl (by omega)|exact .indexArrC 1 rfl rfl rfl (by omega)|exact .indexArrC 2 rfl rfl rfl (by omega)|exact .add _ rfl rfl (wrap_i64 (by omega))|exact .sub _ rfl rfl (wrap_i64 (by omega))|exact .rem _ rfl rfl (by decide) (Int.tmod_eq_emod_of_nonneg (by omega))|exact .cmpT rfl rfl rfl (by unfold cmpP;omega)|exact .cmpF rfl rfl rfl (by unfold cmpP;omega)|fail)|fail)
        exact E.endN _ ⟨rfl, _, rfl, SS.mk' own5 rb5 ra5 ne lb (by omega) (fun h => (by cases h)) ⟨by omega, by omega, by rw [len_snoc]; omega, by rw [lastLen_snoc]; show (sgn c).length ≤ _; omega⟩, k14.any.then (k5.mono (fun k _ e => .inr (.inr (l4 k e.symm).1)))⟩ ⟨rfl, rfl, rfl, rfl, rfl, rfl, rfl, rfl, trivial⟩
end
end Go.Proofs.YtmlhjahbbcgpaaaDoor
