/- words.Split. -/
import Derived.Test.YtmlhjahbbcgpaaaDoorWe
namespace Go.Proofs.YtmlhjahbbcgpaaaDoor
open Vb Go.RowKit

set_option maxHeartbeats 3200000 in
theorem split_round (w : World) (base bb ba N : Nat) (vo v0 v23 : Value) (M : MS) (c : Nat) (h : SS w base bb ba N vo M) (hN : N ≤ 100000) :
    C Tryd.prog 163 (pc [1,1,1,1,1,1,0,1,0,0,1,1,0,1,1] Tryd.f9) (Post 163 (fun e L' w' => e = .normal ∧ ∃ vo', L' = [(0, v0), (6, vo'), (7, pt bb), (8, pt ba), (9, .bool (M.step c).remark), (10, .bool (M.step c).open_), (23, v23)] ∧ SS w' base bb ba (N + 1) vo' (M.step c) ∧ Keep (SK base bb ba) w w')) [(0, v0), (6, vo), (7, pt bb), (8, pt ba), (9, .bool M.remark), (10, .bool M.open_), (12, .int .i32 c), (23, v23)] w := by
  refine C.cut (fun L w1 => L = [(0, v0), (6, vo), (7, pt bb), (8, pt ba), (9, .bool M.remark), (10, .bool M.open_), (12, .int .i32 c), (15, .bool (isL c && !M.remark)), (23, v23)] ∧ w1 = w) ?_ ?_
  · by_cases h1 : 97 ≤ c
    · by_cases h2 : c ≤ 122
      · have e : isL c = true := by simp [isL, h1, h2]
        rw [e]
        cases M.remark
        all_goals
          (repeat first|refine .seq ?_|refine .region ?_|refine .block ?_|refine .skip ?_|refine .ret ?_|refine .exit ?_|refine .yes rfl ?_|refine .no rfl ?_|refine .nil ?_|refine .go ?_|refine .thenExit ?_|refine .thenRet ?_|refine .inExit ?_|refine .outExit rfl ?_|refine .inNormal ?_|refine .inRet ?_|refine .off rfl rfl ?_|refine .offU rfl rfl rfl ?_|(apply W.y rfl rfl;first|exact .move rfl|exact .assign rfl|exact .fieldC rfl|exact .loadW rfl (by (first|apply Ld.oneC|apply Ld.two|apply Ld.three|apply Ld.four|apply Ld.five);repeat(first|assumption|exact Row.cell (by assumption) (by first|rfl|assumption)))|exact .nilCheck rfl|exact .lenC rfl|exact .lenStrC rfl|exact .extract rfl rfl|exact .not rfl|exact .pickT rfl rfl|exact .pickF rfl rfl|exact .buildC rfl rfl|exact .indexC _ rfl rfl rfl (by omega)|exact .indexC 0 rfl rfl rfl (by omega)|exact .indexC 1 rfl rfl rfl (by omega)|exact .indexC 2 rfl rfl rfl (by omega)|exact .indexArrC _ rfl rfl rfl (by omega)|exact .indexArrC 0 rfl rfl rfl (by omega)|exact .indexArrC 1 rfl rfl rfl (by omega)|exact .indexArrC 2 rfl rfl rfl (by omega)|exact .add _ rfl rfl (wrap_i64 (by omega))|exact .sub _ rfl rfl (wrap_i64 (by omega))|exact .rem _ rfl rfl (by decide) (Int.tmod_eq_emod_of_nonneg (by omega))|exact .cmpT rfl rfl rfl (by unfold cmpP;omega)|exact .cmpF rfl rfl rfl (by unfold cmpP;omega)|fail)|fail)
          exact E.meet _ ⟨rfl, rfl⟩ ⟨rfl, rfl, rfl, rfl, rfl, rfl, rfl, rfl, rfl, trivial⟩
      · have e : isL c = false := by simp [isL, h2]
        rw [e]
        (repeat first|refine .seq ?_|refine .region ?_|refine .block ?_|refine .skip ?_|refine .ret ?_|refine .exit ?_|refine .yes rfl ?_|refine .no rfl ?_|refine .nil ?_|refine .go ?_|refine .thenExit ?_|refine .thenRet ?_|refine .inExit ?_|refine .outExit rfl ?_|refine .inNormal ?_|refine .inRet ?_|refine .off rfl rfl ?_|refine .offU rfl rfl rfl ?_|(apply W.y rfl rfl;first|exact .move rfl|exact .assign rfl|exact .fieldC rfl|exact .loadW rfl (by (first|apply Ld.oneC|apply Ld.two|apply Ld.three|apply Ld.four|apply Ld.five);repeat(first|assumption|exact Row.cell (by assumption) (by first|rfl|assumption)))|exact .nilCheck rfl|exact .lenC rfl|exact .lenStrC rfl|exact .extract rfl rfl|exact .not rfl|exact .pickT rfl rfl|exact .pickF rfl rfl|exact .buildC rfl rfl|exact .indexC _ rfl rfl rfl (by omega)|exact .indexC 0 rfl rfl rfl (by omega)|exact .indexC 1 rfl rfl rfl (by omega)|exact .indexC 2 rfl rfl rfl (by omega)|exact .indexArrC _ rfl rfl rfl (by omega)|exact .indexArrC 0 rfl rfl rfl (by omega)|exact .indexArrC 1 rfl rfl rfl (by omega)|exact .indexArrC 2 rfl rfl rfl (by omega)|exact .add _ rfl rfl (wrap_i64 (by omega))|exact .sub _ rfl rfl (wrap_i64 (by omega))|exact .rem _ rfl rfl (by decide) (Int.tmod_eq_emod_of_nonneg (by omega))|exact .cmpT rfl rfl rfl (by unfold cmpP;omega)|exact .cmpF rfl rfl rfl (by unfold cmpP;omega)|fail)|fail)
        exact E.meet _ ⟨rfl, rfl⟩ ⟨rfl, rfl, rfl, rfl, rfl, rfl, rfl, rfl, rfl, trivial⟩
    · have e : isL c = false := by simp [isL, h1]
      rw [e]
      (repeat first|refine .seq ?_|refine .region ?_|refine .block ?_|refine .skip ?_|refine .ret ?_|refine .exit ?_|refine .yes rfl ?_|refine .no rfl ?_|refine .nil ?_|refine .go ?_|refine .thenExit ?_|refine .thenRet ?_|refine .inExit ?_|refine .outExit rfl ?_|refine .inNormal ?_|refine .inRet ?_|refine .off rfl rfl ?_|refine .offU rfl rfl rfl ?_|(apply W.y rfl rfl;first|exact .move rfl|exact .assign rfl|exact .fieldC rfl|exact .loadW rfl (by (first|apply Ld.oneC|apply Ld.two|apply Ld.three|apply Ld.four|apply Ld.five);repeat(first|assumption|exact Row.cell (by assumption) (by first|rfl|assumption)))|exact .nilCheck rfl|exact .lenC rfl|exact .lenStrC rfl|exact .extract rfl rfl|exact .not rfl|exact .pickT rfl rfl|exact .pickF rfl rfl|exact .buildC rfl rfl|exact .indexC _ rfl rfl rfl (by omega)|exact .indexC 0 rfl rfl rfl (by omega)|exact .indexC 1 rfl rfl rfl (by omega)|exact .indexC 2 rfl rfl rfl (by omega)|exact .indexArrC _ rfl rfl rfl (by omega)|exact .indexArrC 0 rfl rfl rfl (by omega)|exact .indexArrC 1 rfl rfl rfl (by omega)|exact .indexArrC 2 rfl rfl rfl (by omega)|exact .add _ rfl rfl (wrap_i64 (by omega))|exact .sub _ rfl rfl (wrap_i64 (by omega))|exact .rem _ rfl rfl (by decide) (Int.tmod_eq_emod_of_nonneg (by omega))|exact .cmpT rfl rfl rfl (by unfold cmpP;omega)|exact .cmpF rfl rfl rfl (by unfold cmpP;omega)|fail)|fail)
      exact E.meet _ ⟨rfl, rfl⟩ ⟨rfl, rfl, rfl, rfl, rfl, rfl, rfl, rfl, rfl, trivial⟩
  · rintro L w1 ⟨rfl, rfl⟩
    refine C.cut (fun L w2 => ∃ vo', L = [(0, v0), (6, vo'), (7, pt bb), (8, pt ba), (9, .bool (M.step c).remark), (12, .int .i32 c), (15, .bool (isL c && !M.remark)), (23, v23)] ∧ SS w2 base bb ba (N + 1) vo' { M.step c with at_ := M.at_ } ∧ Keep (SK base bb ba) w1 w2) ?_ ?_
    · refine C.block ?_
      by_cases hx : M.remark = true ∨ isL c = false
      · refine C.use (split_other w1 base bb ba N vo v0 v23 M c h hN hx) ⟨rfl, rfl, rfl, rfl, rfl, rfl, rfl, rfl, rfl, trivial⟩ ?_
        rintro e L w2 ⟨rfl, vo', rfl, h2, k2⟩
        (repeat first|refine .seq ?_|refine .region ?_|refine .block ?_|refine .skip ?_|refine .ret ?_|refine .exit ?_|refine .yes rfl ?_|refine .no rfl ?_|refine .nil ?_|refine .go ?_|refine .thenExit ?_|refine .thenRet ?_|refine .inExit ?_|refine .outExit rfl ?_|refine .inNormal ?_|refine .inRet ?_|refine .off rfl rfl ?_|refine .offU rfl rfl rfl ?_|(apply W.y rfl rfl;first|exact .move rfl|exact .assign rfl|exact .fieldC rfl|exact .loadW rfl (by (first|apply Ld.oneC|apply Ld.two|apply Ld.three|apply Ld.four|apply Ld.five);repeat(first|assumption|exact Row.cell (by assumption) (by first|rfl|assumption)))|exact .nilCheck rfl|exact .lenC rfl|exact .lenStrC rfl|exact .extract rfl rfl|exact .not rfl|exact .pickT rfl rfl|exact .pickF rfl rfl|exact .buildC rfl rfl|exact .indexC _ rfl rfl rfl (by omega)|exact .indexC 0 rfl rfl rfl (by omega)|exact .indexC 1 rfl rfl rfl (by omega)|exact .indexC 2 rfl rfl rfl (by omega)|exact .indexArrC _ rfl rfl rfl (by omega)|exact .indexArrC 0 rfl rfl rfl (by omega)|exact .indexArrC 1 rfl rfl rfl (by omega)|exact .indexArrC 2 rfl rfl rfl (by omega)|exact .add _ rfl rfl (wrap_i64 (by omega))|exact .sub _ rfl rfl (wrap_i64 (by omega))|exact .rem _ rfl rfl (by decide) (Int.tmod_eq_emod_of_nonneg (by omega))|exact .cmpT rfl rfl rfl (by unfold cmpP;omega)|exact .cmpF rfl rfl rfl (by unfold cmpP;omega)|fail)|fail)
        exact E.meet _ ⟨vo', rfl, h2, k2⟩ ⟨rfl, rfl, rfl, rfl, rfl, rfl, rfl, rfl, trivial⟩
      · refine C.use (split_letter w1 base bb ba N vo v0 v23 M c h hN (by cases hm : M.remark; rfl; exact absurd (.inl hm) hx) (by cases hl : isL c; exact absurd (.inr hl) hx; rfl)) ⟨rfl, rfl, rfl, rfl, rfl, rfl, rfl, rfl, rfl, trivial⟩ ?_
        rintro e L w2 ⟨rfl, vo', rfl, h2, k2⟩
        (repeat first|refine .seq ?_|refine .region ?_|refine .block ?_|refine .skip ?_|refine .ret ?_|refine .exit ?_|refine .yes rfl ?_|refine .no rfl ?_|refine .nil ?_|refine .go ?_|refine .thenExit ?_|refine .thenRet ?_|refine .inExit ?_|refine .outExit rfl ?_|refine .inNormal ?_|refine .inRet ?_|refine .off rfl rfl ?_|refine .offU rfl rfl rfl ?_|(apply W.y rfl rfl;first|exact .move rfl|exact .assign rfl|exact .fieldC rfl|exact .loadW rfl (by (first|apply Ld.oneC|apply Ld.two|apply Ld.three|apply Ld.four|apply Ld.five);repeat(first|assumption|exact Row.cell (by assumption) (by first|rfl|assumption)))|exact .nilCheck rfl|exact .lenC rfl|exact .lenStrC rfl|exact .extract rfl rfl|exact .not rfl|exact .pickT rfl rfl|exact .pickF rfl rfl|exact .buildC rfl rfl|exact .indexC _ rfl rfl rfl (by omega)|exact .indexC 0 rfl rfl rfl (by omega)|exact .indexC 1 rfl rfl rfl (by omega)|exact .indexC 2 rfl rfl rfl (by omega)|exact .indexArrC _ rfl rfl rfl (by omega)|exact .indexArrC 0 rfl rfl rfl (by omega)|exact .indexArrC 1 rfl rfl rfl (by omega)|exact .indexArrC 2 rfl rfl rfl (by omega)|exact .add _ rfl rfl (wrap_i64 (by omega))|exact .sub _ rfl rfl (wrap_i64 (by omega))|exact .rem _ rfl rfl (by decide) (Int.tmod_eq_emod_of_nonneg (by omega))|exact .cmpT rfl rfl rfl (by unfold cmpP;omega)|exact .cmpF rfl rfl rfl (by unfold cmpP;omega)|fail)|fail)
        exact E.meet _ ⟨vo', rfl, h2, k2⟩ ⟨rfl, rfl, rfl, rfl, rfl, rfl, rfl, rfl, trivial⟩
    · rintro L w2 ⟨vo', rfl, h2, k2⟩
      have ra : Row w2 ba 50 [.int .i64 M.at_.1, .int .i64 M.at_.2] := h2.ra
      have q0 := ra.cell (j := 0) rfl
      have q1 := ra.cell (j := 1) rfl
      have hbd := h.bd
      (repeat first|refine .seq ?_|refine .region ?_|refine .block ?_|refine .skip ?_|refine .ret ?_|refine .exit ?_|refine .yes rfl ?_|refine .no rfl ?_|refine .nil ?_|refine .go ?_|refine .thenExit ?_|refine .thenRet ?_|refine .inExit ?_|refine .outExit rfl ?_|refine .inNormal ?_|refine .inRet ?_|refine .off rfl rfl ?_|refine .offU rfl rfl rfl ?_|(apply W.y rfl rfl;first|exact .move rfl|exact .assign rfl|exact .fieldC rfl|exact .loadW rfl (by (first|apply Ld.oneC|apply Ld.two|apply Ld.three|apply Ld.four|apply Ld.five);repeat(first|assumption|exact Row.cell (by assumption) (by first|rfl|assumption)))|exact .nilCheck rfl|exact .lenC rfl|exact .lenStrC rfl|exact .extract rfl rfl|exact .not rfl|exact .pickT rfl rfl|exact .pickF rfl rfl|exact .buildC rfl rfl|exact .indexC _ rfl rfl rfl (by omega)|exact .indexC 0 rfl rfl rfl (by omega)|exact .indexC 1 rfl rfl rfl (by omega)|exact .indexC 2 rfl rfl rfl (by omega)|exact .indexArrC _ rfl rfl rfl (by omega)|exact .indexArrC 0 rfl rfl rfl (by omega)|exact .indexArrC 1 rfl rfl rfl (by omega)|exact .indexArrC 2 rfl rfl rfl (by omega)|exact .add _ rfl rfl (wrap_i64 (by omega))|exact .sub _ rfl rfl (wrap_i64 (by omega))|exact .rem _ rfl rfl (by decide) (Int.tmod_eq_emod_of_nonneg (by omega))|exact .cmpT rfl rfl rfl (by unfold cmpP;omega)|exact .cmpF rfl rfl rfl (by unfold cmpP;omega)|fail)|fail)
      refine W.st rfl rfl (St.callC rfl (step_spec M.at_ c w2 (by omega))) (fun v3 w3 h3 => ?_)
      obtain ⟨rfl, k3⟩ := h3
      have ra3 := ra.keep k3 (non_not _)
      refine W.st0 rfl (St.storeC rfl rfl rfl ra3 (by simp [Value.cells]) (one2 rfl rfl)) (fun v4 w4 h4 => ?_)
      have ra4 : Row w4 ba 50 [.int .i64 (stepP M.at_ c).1, .int .i64 (stepP M.at_ c).2] := h4.row
      have hs := stepP_le M.at_ c
      have h5 := h2.up k3
      have hlb := h2.lb
      have hb2 := h2.bd
      have s4 := h4.size
      have hs5 := h5.hs
      have own4 := own_keep h4.keep h5.own (fun b hb e => by have := h5.own.lt b hb; have e' : b = ba := e; omega)
      have rb4 := h5.rb.keep h4.keep (fun e => h2.ne (by have e' : bb = ba := e; exact e'))
      (repeat first|refine .seq ?_|refine .region ?_|refine .block ?_|refine .skip ?_|refine .ret ?_|refine .exit ?_|refine .yes rfl ?_|refine .no rfl ?_|refine .nil ?_|refine .go ?_|refine .thenExit ?_|refine .thenRet ?_|refine .inExit ?_|refine .outExit rfl ?_|refine .inNormal ?_|refine .inRet ?_|refine .off rfl rfl ?_|refine .offU rfl rfl rfl ?_|(apply W.y rfl rfl;first|exact .move rfl|exact .assign rfl|exact .fieldC rfl|exact .loadW rfl (by (first|apply Ld.oneC|apply Ld.two|apply Ld.three|apply Ld.four|apply Ld.five);repeat(first|assumption|exact Row.cell (by assumption) (by first|rfl|assumption)))|exact .nilCheck rfl|exact .lenC rfl|exact .lenStrC rfl|exact .extract rfl rfl|exact .not rfl|exact .pickT rfl rfl|exact .pickF rfl rfl|exact .buildC rfl rfl|exact .indexC _ rfl rfl rfl (by omega)|exact .indexC 0 rfl rfl rfl (by omega)|exact .indexC 1 rfl rfl rfl (by omega)|exact .indexC 2 rfl rfl rfl (by omega)|exact .indexArrC _ rfl rfl rfl (by omega)|exact .indexArrC 0 rfl rfl rfl (by omega)|exact .indexArrC 1 rfl rfl rfl (by omega)|exact .indexArrC 2 rfl rfl rfl (by omega)|exact .add _ rfl rfl (wrap_i64 (by omega))|exact .sub _ rfl rfl (wrap_i64 (by omega))|exact .rem _ rfl rfl (by decide) (Int.tmod_eq_emod_of_nonneg (by omega))|exact .cmpT rfl rfl rfl (by unfold cmpP;omega)|exact .cmpF rfl rfl rfl (by unfold cmpP;omega)|fail)|fail)
      exact E.endN _ ⟨rfl, vo', rfl, ⟨own4, rb4, by rw [step_at]; exact ra4, h2.ne, hlb, by omega, h2.op, by rw [step_at]; exact ⟨by omega, by omega, hb2.2.2.1, hb2.2.2.2⟩⟩, (k2.then k3.any).then (h4.keep.mono (fun k _ e => .inr (.inl e)))⟩ ⟨rfl, rfl, rfl, rfl, rfl, by rw [open_step]; rfl, rfl, trivial⟩

/-! ### The words, at last -/
def RWd : World → List Value → WV → Prop := fun _ cs x => cs = wcells x
theorem RWd.stable {F : Nat → Prop} : Stable F RWd := fun _ _ _ _ _ _ _ h => h
def SWords (F : Nat → Prop) (w : World) (v : Value) (l : List WV) : Prop := Sl F 4 40 RWd w v l
theorem SWords.keep {F S : Nat → Prop} {w w' : World} (k : Keep S w w') (hF : ∀ k, F k → ¬ S k) {v : Value} {l : List WV} (h : SWords F w v l) : SWords F w' v l := Sl.keep RWd.stable k hF h
theorem SWords.mono {F G : Nat → Prop} {w : World} (hF : ∀ k, F k → G k) {v : Value} {l : List WV} (h : SWords F w v l) : SWords G w v l := Sl.mono hF (fun _ _ h => h) h
theorem wflat_get (l : List WV) (i : Nat) (p : WV) (h : l[i]? = some p) : ((wflat l).drop (i * 4)).take 4 = wcells p := by
  induction l generalizing i with
  | nil => simp at h
  | cons q l ih =>
    cases i with
    | zero =>
      simp only [List.getElem?_cons_zero, Option.some.injEq] at h
      subst h
      simp [wflat, wcells]
    | succ i =>
      have := ih i (by simpa using h)
      rw [show (i + 1) * 4 = i * 4 + 1 + 1 + 1 + 1 by omega]
      simpa [wflat, wcells] using this
theorem text_le (l : List Nat) : ∀ (M : MS) (K : Nat), (∀ x ∈ M.out, x.text.length ≤ K) → ∀ x ∈ (mach M l).out, x.text.length ≤ K + l.length + 1 := by
  induction l with
  | nil => intro M K h x hx; have := h x hx; simp; omega
  | cons c l ih =>
    intro M K h x hx
    have hstep : ∀ x ∈ (M.step c).out, x.text.length ≤ K + 1 := by
      intro y hy
      have hg : ∀ (o : List WV), (∀ x ∈ o, x.text.length ≤ K) → ∀ y ∈ grow c o, y.text.length ≤ K + 1 := by
        intro o
        induction o with
        | nil => intro _ y hy; simp [grow] at hy
        | cons a o ih2 =>
          intro ho y hy
          cases o with
          | nil =>
            simp only [grow, List.mem_singleton] at hy
            subst hy
            have := ho a (by simp)
            simp; omega
          | cons b r =>
            simp only [grow, List.mem_cons] at hy
            rcases hy with rfl | hy
            · have := ho y (by simp); omega
            · exact ih2 (fun x hx => ho x (by simp [List.mem_cons.1 hx])) y hy
      have hap : ∀ z : WV, z.text.length ≤ 1 → y ∈ M.out ++ [z] → y.text.length ≤ K + 1 := fun z hz hy => by
        rcases List.mem_append.1 hy with hy | hy
        · have := h y hy; omega
        · simp only [List.mem_singleton] at hy; subst hy; omega
      unfold MS.step at hy
      have hsl : (sgn c).length ≤ 1 := by unfold sgn; split <;> (try split) <;> (try split) <;> simp
      repeat' split at hy
      all_goals first
        | exact hap _ hsl hy
        | exact hap _ (Nat.le_refl _) hy
        | exact hg _ h y hy
        | (have := h y hy; omega)
    have := ih (M.step c) (K + 1) hstep x hx
    rw [List.length_cons]; omega
end Go.Proofs.YtmlhjahbbcgpaaaDoor
