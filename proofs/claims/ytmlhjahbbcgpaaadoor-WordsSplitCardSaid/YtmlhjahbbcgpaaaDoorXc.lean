/- rhizomeref08.Runes, walked. -/
import Derived.Test.YtmlhjahbbcgpaaaDoorXb
namespace Go.Proofs.YtmlhjahbbcgpaaaDoor
open Vb Go.RowKit

structure R3 where
  n : Nat
  line : Nat
  col : Nat
def placed : Nat × Nat → List Nat → List R3
  | _, [] => []
  | p, c :: l => ⟨c, p.1, p.2⟩ :: placed (stepP p c) l
theorem placed_length (l : List Nat) : ∀ p, (placed p l).length = l.length := by
  induction l with
  | nil => intro p; rfl
  | cons c l ih => intro p; simp [placed, ih]
def rcells (r : R3) : List Value := [.int .i64 r.n, .int .i64 r.line, .int .i64 r.col]
def rflat (l : List R3) : List Value := l.flatMap rcells
theorem rflat_snoc (l : List R3) (x : R3) : rflat (l ++ [x]) = rflat l ++ rcells x := by simp [rflat]
theorem rflat_get (l : List R3) (i : Nat) (p : R3) (h : l[i]? = some p) : ((rflat l).drop (i * 3)).take 3 = rcells p := by
  induction l generalizing i with
  | nil => simp at h
  | cons q l ih =>
    cases i with
    | zero =>
      simp only [List.getElem?_cons_zero, Option.some.injEq] at h
      subst h
      simp [rflat, rcells]
    | succ i =>
      have := ih i (by simpa using h)
      rw [show (i + 1) * 3 = i * 3 + 1 + 1 + 1 by omega]
      simpa [rflat, rcells] using this
def RR3 : World → List Value → R3 → Prop := fun _ cs x => cs = rcells x
theorem RR3.stable {F : Nat → Prop} : Stable F RR3 := fun _ _ _ _ _ _ _ h => h
def SRunes (F : Nat → Prop) (w : World) (v : Value) (l : List R3) : Prop := Sl F 3 24 RR3 w v l
theorem SRunes.keep {F S : Nat → Prop} {w w' : World} (k : Keep S w w') (hF : ∀ k, F k → ¬ S k) {v : Value} {l : List R3} (h : SRunes F w v l) : SRunes F w' v l := Sl.keep RR3.stable k hF h
theorem SRunes.at {F : Nat → Prop} {w : World} {v : Value} {l : List R3} (h : SRunes F w v l) : ∃ A c, v = .slice A l.length c ∧ ∀ i (x : R3), l[i]? = some x → ∃ b o, A = some ⟨b, o, none⟩ ∧ F b ∧ w.cell? ⟨b, o + i * 3, none⟩ = some (.int .i64 x.n) ∧ w.cell? ⟨b, o + i * 3 + 1, none⟩ = some (.int .i64 x.line) ∧ w.cell? ⟨b, o + i * 3 + 2, none⟩ = some (.int .i64 x.col) := by
  obtain ⟨A, c, hv, _, _, _, he⟩ := h
  refine ⟨A, c, hv, fun i x hi => ?_⟩
  obtain ⟨b, o, cs, h1, h2, h3, h4, h5⟩ := he i x hi
  have h5 : cs = rcells x := h5
  subst h5
  have hc : ∀ j u, (rcells x)[j]? = some u → w.cell? ⟨b, o + i * 3 + j, none⟩ = some u := fun j u hu => h4 j u hu
  exact ⟨b, o, h1, h2, hc 0 _ rfl, hc 1 _ rfl, hc 2 _ rfl⟩
theorem E.retM {P : Program} {n : Nat} {L : FL} {w : World} {fn : Func} {R : Value → World → Prop} {t u s b o : Nat} {T : TypeId} {v v' v'' : Value} (hr : fn.results = #[.tmp t, .cell u T, .tmp s]) (h1 : get L t = some v) (hv : get L u = some (.pointer (some ⟨b, o, none⟩))) (hl : Ld P T w b o v') (h3 : get L s = some v'') (h : R (.tuple #[v, v', v'']) w) : E n (bodyPost P fn (Ret R)) .ret L w :=
  E.back (.inr rfl) (fun a ha => by simp [results, hr, ha.look _ _ h1, ha.look _ _ hv, ha.look _ _ h3, asAddr, hl.out]) h

set_option maxHeartbeats 6400000 in
theorem runes3_spec (s : Bs) (w : World) (hs : s.length ≤ 100000) :
    Meets Tryd.prog 15 #[str s] w (fun r w' => ∃ vo, r = .tuple #[vo, .agg #[.int .i64 0, .int .i64 (placeOf (1, 1) (runes s).1).1, .int .i64 (placeOf (1, 1) (runes s).1).2], .bool (runes s).2] ∧ SRunes (fun k => w.heap.size ≤ k) w' vo (placed (1, 1) (runes s).1) ∧ Keep Non w w') := by
  have hz := str_size s
  have hrl := runes_len _ s (Nat.le_refl _)
  refine Meets.enter Tryd.func15 Tryd.ntmps15 rfl rfl ?_
  (repeat first|refine .seq ?_|refine .region ?_|refine .block ?_|refine .skip ?_|refine .ret ?_|refine .exit ?_|refine .yes rfl ?_|refine .no rfl ?_|refine .nil ?_|refine .go ?_|refine .thenExit ?_|refine .thenRet ?_|refine .inExit ?_|refine .outExit rfl ?_|refine .inNormal ?_|refine .inRet ?_|refine .off rfl rfl ?_|refine .offU rfl rfl rfl ?_|(apply W.y rfl rfl;first|exact .move rfl|exact .assign rfl|exact .fieldC rfl|exact .loadW rfl (by (first|apply Ld.oneC|apply Ld.two|apply Ld.three|apply Ld.four|apply Ld.five);repeat(first|assumption|exact Row.cell (by assumption) (by first|rfl|assumption)))|exact .nilCheck rfl|exact .lenC rfl|exact .lenStrC rfl|exact .extract rfl rfl|exact .not rfl|exact .pickT rfl rfl|exact .pickF rfl rfl|exact .buildC rfl rfl|exact .indexC _ rfl rfl rfl (by omega)|exact .indexC 0 rfl rfl rfl (by omega)|exact .indexC 1 rfl rfl rfl (by omega)|exact .indexC 2 rfl rfl rfl (by omega)|exact .indexArrC _ rfl rfl rfl (by omega)|exact .indexArrC 0 rfl rfl rfl (by omega)|exact .indexArrC 1 rfl rfl rfl (by omega)|exact .indexArrC 2 rfl rfl rfl (by omega)|exact .add _ rfl rfl (wrap_i64 (by omega))|exact .sub _ rfl rfl (wrap_i64 (by omega))|exact .rem _ rfl rfl (by decide) (Int.tmod_eq_emod_of_nonneg (by omega))|exact .cmpT rfl rfl rfl (by unfold cmpP;omega)|exact .cmpF rfl rfl rfl (by unfold cmpP;omega)|fail)|fail)
  refine W.st rfl rfl St.allocC (fun v1 w1 h1 => ?_)
  obtain ⟨b3, rfl, hN1⟩ := h1
  have r31 : Row w1 b3 45 [.int .i64 0, .int .i64 0, .int .i64 0] := hN1.row
  have a1 := hN1.at_
  have s1 := hN1.size
  (repeat first|refine .seq ?_|refine .region ?_|refine .block ?_|refine .skip ?_|refine .ret ?_|refine .exit ?_|refine .yes rfl ?_|refine .no rfl ?_|refine .nil ?_|refine .go ?_|refine .thenExit ?_|refine .thenRet ?_|refine .inExit ?_|refine .outExit rfl ?_|refine .inNormal ?_|refine .inRet ?_|refine .off rfl rfl ?_|refine .offU rfl rfl rfl ?_|(apply W.y rfl rfl;first|exact .move rfl|exact .assign rfl|exact .fieldC rfl|exact .loadW rfl (by (first|apply Ld.oneC|apply Ld.two|apply Ld.three|apply Ld.four|apply Ld.five);repeat(first|assumption|exact Row.cell (by assumption) (by first|rfl|assumption)))|exact .nilCheck rfl|exact .lenC rfl|exact .lenStrC rfl|exact .extract rfl rfl|exact .not rfl|exact .pickT rfl rfl|exact .pickF rfl rfl|exact .buildC rfl rfl|exact .indexC _ rfl rfl rfl (by omega)|exact .indexC 0 rfl rfl rfl (by omega)|exact .indexC 1 rfl rfl rfl (by omega)|exact .indexC 2 rfl rfl rfl (by omega)|exact .indexArrC _ rfl rfl rfl (by omega)|exact .indexArrC 0 rfl rfl rfl (by omega)|exact .indexArrC 1 rfl rfl rfl (by omega)|exact .indexArrC 2 rfl rfl rfl (by omega)|exact .add _ rfl rfl (wrap_i64 (by omega))|exact .sub _ rfl rfl (wrap_i64 (by omega))|exact .rem _ rfl rfl (by decide) (Int.tmod_eq_emod_of_nonneg (by omega))|exact .cmpT rfl rfl rfl (by unfold cmpP;omega)|exact .cmpF rfl rfl rfl (by unfold cmpP;omega)|fail)|fail)
  refine W.st rfl rfl St.allocC (fun v2 w2 h2 => ?_)
  obtain ⟨b6, rfl, hN2⟩ := h2
  have a2 := hN2.at_
  have s2 := hN2.size
  refine W.st0 rfl (St.storeC rfl rfl rfl hN2.row (by simp [Value.cells]) (one3 rfl rfl rfl)) (fun v3 w3 h3 => ?_)
  have r63 : Row w3 b6 45 [.int .i64 0, .int .i64 1, .int .i64 1] := h3.row
  have s3 := h3.size
  have k03 : Keep Non w w3 := (hN1.keep.then hN2.keep).put h3 (by omega)
  have r33 := (r31.keep hN2.keep (non_not _)).keep h3.keep (fun e => by have e' : b3 = b6 := e; omega)
  clear hN1 hN2 h3 r31
  (repeat first|refine .seq ?_|refine .region ?_|refine .block ?_|refine .skip ?_|refine .ret ?_|refine .exit ?_|refine .yes rfl ?_|refine .no rfl ?_|refine .nil ?_|refine .go ?_|refine .thenExit ?_|refine .thenRet ?_|refine .inExit ?_|refine .outExit rfl ?_|refine .inNormal ?_|refine .inRet ?_|refine .off rfl rfl ?_|refine .offU rfl rfl rfl ?_|(apply W.y rfl rfl;first|exact .move rfl|exact .assign rfl|exact .fieldC rfl|exact .loadW rfl (by (first|apply Ld.oneC|apply Ld.two|apply Ld.three|apply Ld.four|apply Ld.five);repeat(first|assumption|exact Row.cell (by assumption) (by first|rfl|assumption)))|exact .nilCheck rfl|exact .lenC rfl|exact .lenStrC rfl|exact .extract rfl rfl|exact .not rfl|exact .pickT rfl rfl|exact .pickF rfl rfl|exact .buildC rfl rfl|exact .indexC _ rfl rfl rfl (by omega)|exact .indexC 0 rfl rfl rfl (by omega)|exact .indexC 1 rfl rfl rfl (by omega)|exact .indexC 2 rfl rfl rfl (by omega)|exact .indexArrC _ rfl rfl rfl (by omega)|exact .indexArrC 0 rfl rfl rfl (by omega)|exact .indexArrC 1 rfl rfl rfl (by omega)|exact .indexArrC 2 rfl rfl rfl (by omega)|exact .add _ rfl rfl (wrap_i64 (by omega))|exact .sub _ rfl rfl (wrap_i64 (by omega))|exact .rem _ rfl rfl (by decide) (Int.tmod_eq_emod_of_nonneg (by omega))|exact .cmpT rfl rfl rfl (by unfold cmpP;omega)|exact .cmpF rfl rfl rfl (by unfold cmpP;omega)|fail)|fail)
  refine C.loop (fun m L w' => ∃ (pos : Nat) (vo : Value) (dn : List R3) (p : Nat × Nat), L = [(0, str s), (3, pt b3), (5, vo), (6, pt b6), (7, .int .i64 pos)] ∧ m = s.length - pos ∧ pos ≤ s.length ∧ w'.ownsRow (b6 + 1) 45 3 vo dn.length (rflat dn) ∧ Row w' b6 45 [.int .i64 0, .int .i64 p.1, .int .i64 p.2] ∧ Row w' b3 45 [.int .i64 0, .int .i64 0, .int .i64 0] ∧ b6 < w'.heap.size ∧ p.1 ≤ pos + 1 ∧ p.2 ≤ pos + 1 ∧ dn ++ placed p (runes (s.drop pos)).1 = placed (1, 1) (runes s).1 ∧ placeOf p (runes (s.drop pos)).1 = placeOf (1, 1) (runes s).1 ∧ (runes (s.drop pos)).2 = (runes s).2 ∧ Keep Non w w') s.length _
    ⟨0, _, [], (1, 1), rfl, rfl, by omega, ⟨rfl, .inl ⟨rfl, rfl⟩⟩, r63, r33, by omega, by decide, by decide, rfl, rfl, rfl, k03⟩ ⟨rfl, rfl, rfl, rfl, rfl, trivial⟩ ?_
  clear r63 r33 k03
  rintro m L w4 ⟨pos, vo, dn, p, rfl, rfl, hpos, own, r6, r3, hsz, hp1, hp2, hD, hpl, hok, k4⟩
  have hDl : dn.length ≤ 100000 := by
    have := congrArg List.length hD
    rw [List.length_append, placed_length, placed_length] at this
    omega
  have q0 := r6.cell (j := 0) rfl
  have q1 := r6.cell (j := 1) rfl
  have q2 := r6.cell (j := 2) rfl
  by_cases hlt : pos < s.length
  · have hne := drop_ne hlt
    have hdp := dec_pos hne
    have hdl := dec_le hne
    rw [List.length_drop] at hdl
    obtain ⟨hgo, hbad⟩ := runes_step hlt
    have hrs := rune_spec s pos w4 hlt (by omega)
    rw [refRune_dec _ hne] at hrs
    generalize hd : dec (s.drop pos) = d at *
    cases hokd : okd d with
    | false =>
      have hb := hbad hokd
      rw [hb] at hD hpl hok
      have hD : dn ++ [] = placed (1, 1) (runes s).1 := hD
      have hpl : p = placeOf (1, 1) (runes s).1 := hpl
      have hok : false = (runes s).2 := hok
      rw [List.append_nil] at hD
      have e : okSw d = (0, 0) := by unfold okSw; rw [hokd]; rfl
      rw [e] at hrs
      rw [← hD, ← hpl, ← hok]
      (repeat first|refine .seq ?_|refine .region ?_|refine .block ?_|refine .skip ?_|refine .ret ?_|refine .exit ?_|refine .yes rfl ?_|refine .no rfl ?_|refine .nil ?_|refine .go ?_|refine .thenExit ?_|refine .thenRet ?_|refine .inExit ?_|refine .outExit rfl ?_|refine .inNormal ?_|refine .inRet ?_|refine .off rfl rfl ?_|refine .offU rfl rfl rfl ?_|(apply W.y rfl rfl;first|exact .move rfl|exact .assign rfl|exact .fieldC rfl|exact .loadW rfl (by (first|apply Ld.oneC|apply Ld.two|apply Ld.three|apply Ld.four|apply Ld.five);repeat(first|assumption|exact Row.cell (by assumption) (by first|rfl|assumption)))|exact .nilCheck rfl|exact .lenC rfl|exact .lenStrC rfl|exact .extract rfl rfl|exact .not rfl|exact .pickT rfl rfl|exact .pickF rfl rfl|exact .buildC rfl rfl|exact .indexC _ rfl rfl rfl (by omega)|exact .indexC 0 rfl rfl rfl (by omega)|exact .indexC 1 rfl rfl rfl (by omega)|exact .indexC 2 rfl rfl rfl (by omega)|exact .indexArrC _ rfl rfl rfl (by omega)|exact .indexArrC 0 rfl rfl rfl (by omega)|exact .indexArrC 1 rfl rfl rfl (by omega)|exact .indexArrC 2 rfl rfl rfl (by omega)|exact .add _ rfl rfl (wrap_i64 (by omega))|exact .sub _ rfl rfl (wrap_i64 (by omega))|exact .rem _ rfl rfl (by decide) (Int.tmod_eq_emod_of_nonneg (by omega))|exact .cmpT rfl rfl rfl (by unfold cmpP;omega)|exact .cmpF rfl rfl rfl (by unfold cmpP;omega)|fail)|fail)
      refine W.st rfl rfl (St.callC rfl hrs) (fun v5 w5 h5 => ?_)
      obtain ⟨rfl, rfl⟩ := h5
      (repeat first|refine .seq ?_|refine .region ?_|refine .block ?_|refine .skip ?_|refine .ret ?_|refine .exit ?_|refine .yes rfl ?_|refine .no rfl ?_|refine .nil ?_|refine .go ?_|refine .thenExit ?_|refine .thenRet ?_|refine .inExit ?_|refine .outExit rfl ?_|refine .inNormal ?_|refine .inRet ?_|refine .off rfl rfl ?_|refine .offU rfl rfl rfl ?_|(apply W.y rfl rfl;first|exact .move rfl|exact .assign rfl|exact .fieldC rfl|exact .loadW rfl (by (first|apply Ld.oneC|apply Ld.two|apply Ld.three|apply Ld.four|apply Ld.five);repeat(first|assumption|exact Row.cell (by assumption) (by first|rfl|assumption)))|exact .nilCheck rfl|exact .lenC rfl|exact .lenStrC rfl|exact .extract rfl rfl|exact .not rfl|exact .pickT rfl rfl|exact .pickF rfl rfl|exact .buildC rfl rfl|exact .indexC _ rfl rfl rfl (by omega)|exact .indexC 0 rfl rfl rfl (by omega)|exact .indexC 1 rfl rfl rfl (by omega)|exact .indexC 2 rfl rfl rfl (by omega)|exact .indexArrC _ rfl rfl rfl (by omega)|exact .indexArrC 0 rfl rfl rfl (by omega)|exact .indexArrC 1 rfl rfl rfl (by omega)|exact .indexArrC 2 rfl rfl rfl (by omega)|exact .add _ rfl rfl (wrap_i64 (by omega))|exact .sub _ rfl rfl (wrap_i64 (by omega))|exact .rem _ rfl rfl (by decide) (Int.tmod_eq_emod_of_nonneg (by omega))|exact .cmpT rfl rfl rfl (by unfold cmpP;omega)|exact .cmpF rfl rfl rfl (by unfold cmpP;omega)|fail)|fail)
      refine C.draw 5 (fun wq => Keep Non w5 wq) [3] mixed rfl (fun w6 kw6 ew6 => ?_)
      ((refine .take 0 rfl (by kernel_rfl) rfl rfl (.move rfl) ?_); (refine .read 1 rfl (by kernel_rfl) rfl rfl (by assumption) (.load rfl (fun w hw => (by (first|apply Ld.oneC|apply Ld.two|apply Ld.three|apply Ld.four|apply Ld.five);repeat(apply Keep.cell hw;(first|assumption|exact Row.cell (by assumption) (by first|rfl|assumption));first|exact non_not _|assumption|(intro e;omega)|(simp;omega))))) ?_); (refine .take 2 rfl (by kernel_rfl) rfl rfl (.assign rfl) ?_))
      have r36 := r3.keep kw6 (non_not _)
      refine D.one0 3 rfl (by kernel_rfl) rfl (St.storeC rfl rfl rfl r36 (by simp [Value.cells]) (one3 rfl rfl rfl)) (fun v7 w7 h7 => ⟨fun h => absurd h (by decide), ?_⟩)
      have r37 : Row w7 b3 45 [.int .i64 0, .int .i64 p.1, .int .i64 p.2] := h7.row
      have own7 := own_keep h7.keep (own_keep kw6 own (fun _ _ => non_not _)) (fun b hb e => by have := own.lt b hb; have e' : b = b3 := e; omega)
      ((refine .take 4 rfl (by kernel_rfl) rfl rfl (.assign rfl) ?_))
      refine D.fin (by kernel_rfl) ?_
      (repeat first|refine .seq ?_|refine .region ?_|refine .block ?_|refine .skip ?_|refine .ret ?_|refine .exit ?_|refine .yes rfl ?_|refine .no rfl ?_|refine .nil ?_|refine .go ?_|refine .thenExit ?_|refine .thenRet ?_|refine .inExit ?_|refine .outExit rfl ?_|refine .inNormal ?_|refine .inRet ?_|refine .off rfl rfl ?_|refine .offU rfl rfl rfl ?_|(apply W.y rfl rfl;first|exact .move rfl|exact .assign rfl|exact .fieldC rfl|exact .loadW rfl (by (first|apply Ld.oneC|apply Ld.two|apply Ld.three|apply Ld.four|apply Ld.five);repeat(first|assumption|exact Row.cell (by assumption) (by first|rfl|assumption)))|exact .nilCheck rfl|exact .lenC rfl|exact .lenStrC rfl|exact .extract rfl rfl|exact .not rfl|exact .pickT rfl rfl|exact .pickF rfl rfl|exact .buildC rfl rfl|exact .indexC _ rfl rfl rfl (by omega)|exact .indexC 0 rfl rfl rfl (by omega)|exact .indexC 1 rfl rfl rfl (by omega)|exact .indexC 2 rfl rfl rfl (by omega)|exact .indexArrC _ rfl rfl rfl (by omega)|exact .indexArrC 0 rfl rfl rfl (by omega)|exact .indexArrC 1 rfl rfl rfl (by omega)|exact .indexArrC 2 rfl rfl rfl (by omega)|exact .add _ rfl rfl (wrap_i64 (by omega))|exact .sub _ rfl rfl (wrap_i64 (by omega))|exact .rem _ rfl rfl (by decide) (Int.tmod_eq_emod_of_nonneg (by omega))|exact .cmpT rfl rfl rfl (by unfold cmpP;omega)|exact .cmpF rfl rfl rfl (by unfold cmpP;omega)|fail)|fail)
      refine E.retM rfl rfl rfl (Ld.three (r37.cell (j := 0) rfl) (r37.cell (j := 1) rfl) (r37.cell (j := 2) rfl)) rfl ⟨_, rfl, Sl.of_own own7 rfl (by omega) (fun b hb => by have := own7.lt b hb; omega) (fun i x hx => rflat_get _ i x hx), (k4.then kw6).put h7 (by omega)⟩
    | true =>
      obtain ⟨hg1, hg2⟩ := hgo hokd
      rw [hg1] at hD hpl
      rw [hg2] at hok
      have e : okSw d = (d.2, d.1) := by unfold okSw; rw [hokd]; rfl
      rw [e] at hrs
      obtain ⟨A, cp, rfl⟩ := own_shape own
      (repeat first|refine .seq ?_|refine .region ?_|refine .block ?_|refine .skip ?_|refine .ret ?_|refine .exit ?_|refine .yes rfl ?_|refine .no rfl ?_|refine .nil ?_|refine .go ?_|refine .thenExit ?_|refine .thenRet ?_|refine .inExit ?_|refine .outExit rfl ?_|refine .inNormal ?_|refine .inRet ?_|refine .off rfl rfl ?_|refine .offU rfl rfl rfl ?_|(apply W.y rfl rfl;first|exact .move rfl|exact .assign rfl|exact .fieldC rfl|exact .loadW rfl (by (first|apply Ld.oneC|apply Ld.two|apply Ld.three|apply Ld.four|apply Ld.five);repeat(first|assumption|exact Row.cell (by assumption) (by first|rfl|assumption)))|exact .nilCheck rfl|exact .lenC rfl|exact .lenStrC rfl|exact .extract rfl rfl|exact .not rfl|exact .pickT rfl rfl|exact .pickF rfl rfl|exact .buildC rfl rfl|exact .indexC _ rfl rfl rfl (by omega)|exact .indexC 0 rfl rfl rfl (by omega)|exact .indexC 1 rfl rfl rfl (by omega)|exact .indexC 2 rfl rfl rfl (by omega)|exact .indexArrC _ rfl rfl rfl (by omega)|exact .indexArrC 0 rfl rfl rfl (by omega)|exact .indexArrC 1 rfl rfl rfl (by omega)|exact .indexArrC 2 rfl rfl rfl (by omega)|exact .add _ rfl rfl (wrap_i64 (by omega))|exact .sub _ rfl rfl (wrap_i64 (by omega))|exact .rem _ rfl rfl (by decide) (Int.tmod_eq_emod_of_nonneg (by omega))|exact .cmpT rfl rfl rfl (by unfold cmpP;omega)|exact .cmpF rfl rfl rfl (by unfold cmpP;omega)|fail)|fail)
      refine W.st rfl rfl (St.callC rfl hrs) (fun v5 w5 h5 => ?_)
      obtain ⟨rfl, rfl⟩ := h5
      (repeat first|refine .seq ?_|refine .region ?_|refine .block ?_|refine .skip ?_|refine .ret ?_|refine .exit ?_|refine .yes rfl ?_|refine .no rfl ?_|refine .nil ?_|refine .go ?_|refine .thenExit ?_|refine .thenRet ?_|refine .inExit ?_|refine .outExit rfl ?_|refine .inNormal ?_|refine .inRet ?_|refine .off rfl rfl ?_|refine .offU rfl rfl rfl ?_|(apply W.y rfl rfl;first|exact .move rfl|exact .assign rfl|exact .fieldC rfl|exact .loadW rfl (by (first|apply Ld.oneC|apply Ld.two|apply Ld.three|apply Ld.four|apply Ld.five);repeat(first|assumption|exact Row.cell (by assumption) (by first|rfl|assumption)))|exact .nilCheck rfl|exact .lenC rfl|exact .lenStrC rfl|exact .extract rfl rfl|exact .not rfl|exact .pickT rfl rfl|exact .pickF rfl rfl|exact .buildC rfl rfl|exact .indexC _ rfl rfl rfl (by omega)|exact .indexC 0 rfl rfl rfl (by omega)|exact .indexC 1 rfl rfl rfl (by omega)|exact .indexC 2 rfl rfl rfl (by omega)|exact .indexArrC _ rfl rfl rfl (by omega)|exact .indexArrC 0 rfl rfl rfl (by omega)|exact .indexArrC 1 rfl rfl rfl (by omega)|exact .indexArrC 2 rfl rfl rfl (by omega)|exact .add _ rfl rfl (wrap_i64 (by omega))|exact .sub _ rfl rfl (wrap_i64 (by omega))|exact .rem _ rfl rfl (by decide) (Int.tmod_eq_emod_of_nonneg (by omega))|exact .cmpT rfl rfl rfl (by unfold cmpP;omega)|exact .cmpF rfl rfl rfl (by unfold cmpP;omega)|fail)|fail)
      refine W.st rfl rfl (St.lit (vs := [.agg #[_, _, _]]) rfl rfl (by omega) (fun v hv => by simp only [List.mem_singleton] at hv; subst hv; rfl)) (fun v6 w6 h6 => ?_)
      obtain ⟨b7, rfl, hN6⟩ := h6
      have own6 := own_keep hN6.keep own (fun _ _ => non_not _)
      have s6 := hN6.size
      have l6 := own6.lt
      refine W.st rfl rfl (St.appendC (b6 + 1) (rcells ⟨d.1, p.1, p.2⟩) rfl rfl own6 (hN6.row.cells 0 _ rfl) rfl (one3 rfl rfl rfl) (by omega) (by omega)) (fun v7 w7 h7 => ?_)
      obtain ⟨own7, k7, d7⟩ := h7
      have own7 : w7.ownsRow (b6 + 1) 45 3 v7 (dn ++ [(⟨d.1, p.1, p.2⟩ : R3)]).length (rflat (dn ++ [⟨d.1, p.1, p.2⟩])) := by
        rw [rflat_snoc, List.length_append]; exact own7
      have s7 := k7.size
      have r67 := (r6.keep hN6.keep (non_not _)).keep k7 (fun e => by have := (l6 b6 e.symm).1; omega)
      have r37 := (r3.keep hN6.keep (non_not _)).keep k7 (fun e => by have := (l6 b3 e.symm).1; omega)
      have k07 : Keep Non w w7 := (k4.then hN6.keep).far k7 (fun i hi => by have := (l6 i hi.symm).1; omega)
      have q1 := r67.cell (j := 1) rfl
      have q2 := r67.cell (j := 2) rfl
      clear own own6 r6 r3 k7 hN6 hrs k4
      (repeat first|refine .seq ?_|refine .region ?_|refine .block ?_|refine .skip ?_|refine .ret ?_|refine .exit ?_|refine .yes rfl ?_|refine .no rfl ?_|refine .nil ?_|refine .go ?_|refine .thenExit ?_|refine .thenRet ?_|refine .inExit ?_|refine .outExit rfl ?_|refine .inNormal ?_|refine .inRet ?_|refine .off rfl rfl ?_|refine .offU rfl rfl rfl ?_|(apply W.y rfl rfl;first|exact .move rfl|exact .assign rfl|exact .fieldC rfl|exact .loadW rfl (by (first|apply Ld.oneC|apply Ld.two|apply Ld.three|apply Ld.four|apply Ld.five);repeat(first|assumption|exact Row.cell (by assumption) (by first|rfl|assumption)))|exact .nilCheck rfl|exact .lenC rfl|exact .lenStrC rfl|exact .extract rfl rfl|exact .not rfl|exact .pickT rfl rfl|exact .pickF rfl rfl|exact .buildC rfl rfl|exact .indexC _ rfl rfl rfl (by omega)|exact .indexC 0 rfl rfl rfl (by omega)|exact .indexC 1 rfl rfl rfl (by omega)|exact .indexC 2 rfl rfl rfl (by omega)|exact .indexArrC _ rfl rfl rfl (by omega)|exact .indexArrC 0 rfl rfl rfl (by omega)|exact .indexArrC 1 rfl rfl rfl (by omega)|exact .indexArrC 2 rfl rfl rfl (by omega)|exact .add _ rfl rfl (wrap_i64 (by omega))|exact .sub _ rfl rfl (wrap_i64 (by omega))|exact .rem _ rfl rfl (by decide) (Int.tmod_eq_emod_of_nonneg (by omega))|exact .cmpT rfl rfl rfl (by unfold cmpP;omega)|exact .cmpF rfl rfl rfl (by unfold cmpP;omega)|fail)|fail)
      refine W.st0 rfl (St.storeC rfl rfl rfl r67 (show _ + 1 ≤ _ by simp) (one1 rfl)) (fun v8 w8 h8 => ?_)
      have r68 : Row w8 b6 45 [.int .i64 0, .int .i64 p.1, .int .i64 (p.2 + 1 : Nat)] := h8.row
      have own8 := own_keep h8.keep own7 (fun b hb e => by have := own7.lt b hb; have e' : b = b6 := e; omega)
      have r38 := r37.keep h8.keep (fun e => by have e' : b3 = b6 := e; omega)
      have k08 : Keep Non w w8 := k07.put h8 (by omega)
      have s8 := h8.size
      have q1 := r68.cell (j := 1) rfl
      by_cases h10 : d.1 = 10
      · have hst : stepP p d.1 = (p.1 + 1, 1) := by unfold stepP; rw [if_pos h10]
        (repeat first|refine .seq ?_|refine .region ?_|refine .block ?_|refine .skip ?_|refine .ret ?_|refine .exit ?_|refine .yes rfl ?_|refine .no rfl ?_|refine .nil ?_|refine .go ?_|refine .thenExit ?_|refine .thenRet ?_|refine .inExit ?_|refine .outExit rfl ?_|refine .inNormal ?_|refine .inRet ?_|refine .off rfl rfl ?_|refine .offU rfl rfl rfl ?_|(apply W.y rfl rfl;first|exact .move rfl|exact .assign rfl|exact .fieldC rfl|exact .loadW rfl (by (first|apply Ld.oneC|apply Ld.two|apply Ld.three|apply Ld.four|apply Ld.five);repeat(first|assumption|exact Row.cell (by assumption) (by first|rfl|assumption)))|exact .nilCheck rfl|exact .lenC rfl|exact .lenStrC rfl|exact .extract rfl rfl|exact .not rfl|exact .pickT rfl rfl|exact .pickF rfl rfl|exact .buildC rfl rfl|exact .indexC _ rfl rfl rfl (by omega)|exact .indexC 0 rfl rfl rfl (by omega)|exact .indexC 1 rfl rfl rfl (by omega)|exact .indexC 2 rfl rfl rfl (by omega)|exact .indexArrC _ rfl rfl rfl (by omega)|exact .indexArrC 0 rfl rfl rfl (by omega)|exact .indexArrC 1 rfl rfl rfl (by omega)|exact .indexArrC 2 rfl rfl rfl (by omega)|exact .add _ rfl rfl (wrap_i64 (by omega))|exact .sub _ rfl rfl (wrap_i64 (by omega))|exact .rem _ rfl rfl (by decide) (Int.tmod_eq_emod_of_nonneg (by omega))|exact .cmpT rfl rfl rfl (by unfold cmpP;omega)|exact .cmpF rfl rfl rfl (by unfold cmpP;omega)|fail)|fail)
        refine W.st0 rfl (St.storeC rfl rfl rfl r68 (show _ + 1 ≤ _ by simp) (one1 rfl)) (fun v9 w9 h9 => ?_)
        have r69 : Row w9 b6 45 [.int .i64 0, .int .i64 (p.1 + 1 : Nat), .int .i64 (p.2 + 1 : Nat)] := h9.row
        have s9 := h9.size
        (repeat first|refine .seq ?_|refine .region ?_|refine .block ?_|refine .skip ?_|refine .ret ?_|refine .exit ?_|refine .yes rfl ?_|refine .no rfl ?_|refine .nil ?_|refine .go ?_|refine .thenExit ?_|refine .thenRet ?_|refine .inExit ?_|refine .outExit rfl ?_|refine .inNormal ?_|refine .inRet ?_|refine .off rfl rfl ?_|refine .offU rfl rfl rfl ?_|(apply W.y rfl rfl;first|exact .move rfl|exact .assign rfl|exact .fieldC rfl|exact .loadW rfl (by (first|apply Ld.oneC|apply Ld.two|apply Ld.three|apply Ld.four|apply Ld.five);repeat(first|assumption|exact Row.cell (by assumption) (by first|rfl|assumption)))|exact .nilCheck rfl|exact .lenC rfl|exact .lenStrC rfl|exact .extract rfl rfl|exact .not rfl|exact .pickT rfl rfl|exact .pickF rfl rfl|exact .buildC rfl rfl|exact .indexC _ rfl rfl rfl (by omega)|exact .indexC 0 rfl rfl rfl (by omega)|exact .indexC 1 rfl rfl rfl (by omega)|exact .indexC 2 rfl rfl rfl (by omega)|exact .indexArrC _ rfl rfl rfl (by omega)|exact .indexArrC 0 rfl rfl rfl (by omega)|exact .indexArrC 1 rfl rfl rfl (by omega)|exact .indexArrC 2 rfl rfl rfl (by omega)|exact .add _ rfl rfl (wrap_i64 (by omega))|exact .sub _ rfl rfl (wrap_i64 (by omega))|exact .rem _ rfl rfl (by decide) (Int.tmod_eq_emod_of_nonneg (by omega))|exact .cmpT rfl rfl rfl (by unfold cmpP;omega)|exact .cmpF rfl rfl rfl (by unfold cmpP;omega)|fail)|fail)
        refine W.st0 rfl (St.storeC rfl rfl rfl r69 (show _ + 1 ≤ _ by simp) (one1 rfl)) (fun v10 w10 h10 => ?_)
        have r610 : Row w10 b6 45 [.int .i64 0, .int .i64 (p.1 + 1 : Nat), .int .i64 (1 : Nat)] := h10.row
        have s10 := h10.size
        have own10 := own_keep h10.keep (own_keep h9.keep own8 (fun b hb e => by have := own8.lt b hb; have e' : b = b6 := e; omega)) (fun b hb e => by have := own8.lt b hb; have e' : b = b6 := e; omega)
        have r310 := (r38.keep h9.keep (fun e => by have e' : b3 = b6 := e; omega)).keep h10.keep (fun e => by have e' : b3 = b6 := e; omega)
        (repeat first|refine .seq ?_|refine .region ?_|refine .block ?_|refine .skip ?_|refine .ret ?_|refine .exit ?_|refine .yes rfl ?_|refine .no rfl ?_|refine .nil ?_|refine .go ?_|refine .thenExit ?_|refine .thenRet ?_|refine .inExit ?_|refine .outExit rfl ?_|refine .inNormal ?_|refine .inRet ?_|refine .off rfl rfl ?_|refine .offU rfl rfl rfl ?_|(apply W.y rfl rfl;first|exact .move rfl|exact .assign rfl|exact .fieldC rfl|exact .loadW rfl (by (first|apply Ld.oneC|apply Ld.two|apply Ld.three|apply Ld.four|apply Ld.five);repeat(first|assumption|exact Row.cell (by assumption) (by first|rfl|assumption)))|exact .nilCheck rfl|exact .lenC rfl|exact .lenStrC rfl|exact .extract rfl rfl|exact .not rfl|exact .pickT rfl rfl|exact .pickF rfl rfl|exact .buildC rfl rfl|exact .indexC _ rfl rfl rfl (by omega)|exact .indexC 0 rfl rfl rfl (by omega)|exact .indexC 1 rfl rfl rfl (by omega)|exact .indexC 2 rfl rfl rfl (by omega)|exact .indexArrC _ rfl rfl rfl (by omega)|exact .indexArrC 0 rfl rfl rfl (by omega)|exact .indexArrC 1 rfl rfl rfl (by omega)|exact .indexArrC 2 rfl rfl rfl (by omega)|exact .add _ rfl rfl (wrap_i64 (by omega))|exact .sub _ rfl rfl (wrap_i64 (by omega))|exact .rem _ rfl rfl (by decide) (Int.tmod_eq_emod_of_nonneg (by omega))|exact .cmpT rfl rfl rfl (by unfold cmpP;omega)|exact .cmpF rfl rfl rfl (by unfold cmpP;omega)|fail)|fail)
        exact E.again _ _ (by omega) ⟨pos + d.2, _, dn ++ [⟨d.1, p.1, p.2⟩], (p.1 + 1, 1), rfl, rfl, by omega, own10, r610, r310, by omega, by show p.1 + 1 ≤ _; omega, by show 1 ≤ _; omega, by rw [← hD, ← hst, List.append_assoc]; rfl, by rw [← hpl, ← hst]; rfl, hok, (k08.put h9 (by omega)).put h10 (by omega)⟩ ⟨rfl, rfl, rfl, rfl, some_int (by omega), trivial⟩
      · have hst : stepP p d.1 = (p.1, p.2 + 1) := by unfold stepP; rw [if_neg h10]
        (repeat first|refine .seq ?_|refine .region ?_|refine .block ?_|refine .skip ?_|refine .ret ?_|refine .exit ?_|refine .yes rfl ?_|refine .no rfl ?_|refine .nil ?_|refine .go ?_|refine .thenExit ?_|refine .thenRet ?_|refine .inExit ?_|refine .outExit rfl ?_|refine .inNormal ?_|refine .inRet ?_|refine .off rfl rfl ?_|refine .offU rfl rfl rfl ?_|(apply W.y rfl rfl;first|exact .move rfl|exact .assign rfl|exact .fieldC rfl|exact .loadW rfl (by (first|apply Ld.oneC|apply Ld.two|apply Ld.three|apply Ld.four|apply Ld.five);repeat(first|assumption|exact Row.cell (by assumption) (by first|rfl|assumption)))|exact .nilCheck rfl|exact .lenC rfl|exact .lenStrC rfl|exact .extract rfl rfl|exact .not rfl|exact .pickT rfl rfl|exact .pickF rfl rfl|exact .buildC rfl rfl|exact .indexC _ rfl rfl rfl (by omega)|exact .indexC 0 rfl rfl rfl (by omega)|exact .indexC 1 rfl rfl rfl (by omega)|exact .indexC 2 rfl rfl rfl (by omega)|exact .indexArrC _ rfl rfl rfl (by omega)|exact .indexArrC 0 rfl rfl rfl (by omega)|exact .indexArrC 1 rfl rfl rfl (by omega)|exact .indexArrC 2 rfl rfl rfl (by omega)|exact .add _ rfl rfl (wrap_i64 (by omega))|exact .sub _ rfl rfl (wrap_i64 (by omega))|exact .rem _ rfl rfl (by decide) (Int.tmod_eq_emod_of_nonneg (by omega))|exact .cmpT rfl rfl rfl (by unfold cmpP;omega)|exact .cmpF rfl rfl rfl (by unfold cmpP;omega)|fail)|fail)
        exact E.again _ _ (by omega) ⟨pos + d.2, _, dn ++ [⟨d.1, p.1, p.2⟩], (p.1, p.2 + 1), rfl, rfl, by omega, own8, r68, r38, by omega, by show p.1 ≤ _; omega, by show p.2 + 1 ≤ _; omega, by rw [← hD, ← hst, List.append_assoc]; rfl, by rw [← hpl, ← hst]; rfl, hok, k08⟩ ⟨rfl, rfl, rfl, rfl, some_int (by omega), trivial⟩
  · have e : pos = s.length := by omega
    subst e
    rw [List.drop_length, runes_nil] at hD hpl hok
    have hD : dn ++ [] = placed (1, 1) (runes s).1 := hD
    have hpl : p = placeOf (1, 1) (runes s).1 := hpl
    have hok : true = (runes s).2 := hok
    rw [List.append_nil] at hD
    rw [← hD, ← hpl, ← hok]
    (repeat first|refine .seq ?_|refine .region ?_|refine .block ?_|refine .skip ?_|refine .ret ?_|refine .exit ?_|refine .yes rfl ?_|refine .no rfl ?_|refine .nil ?_|refine .go ?_|refine .thenExit ?_|refine .thenRet ?_|refine .inExit ?_|refine .outExit rfl ?_|refine .inNormal ?_|refine .inRet ?_|refine .off rfl rfl ?_|refine .offU rfl rfl rfl ?_|(apply W.y rfl rfl;first|exact .move rfl|exact .assign rfl|exact .fieldC rfl|exact .loadW rfl (by (first|apply Ld.oneC|apply Ld.two|apply Ld.three|apply Ld.four|apply Ld.five);repeat(first|assumption|exact Row.cell (by assumption) (by first|rfl|assumption)))|exact .nilCheck rfl|exact .lenC rfl|exact .lenStrC rfl|exact .extract rfl rfl|exact .not rfl|exact .pickT rfl rfl|exact .pickF rfl rfl|exact .buildC rfl rfl|exact .indexC _ rfl rfl rfl (by omega)|exact .indexC 0 rfl rfl rfl (by omega)|exact .indexC 1 rfl rfl rfl (by omega)|exact .indexC 2 rfl rfl rfl (by omega)|exact .indexArrC _ rfl rfl rfl (by omega)|exact .indexArrC 0 rfl rfl rfl (by omega)|exact .indexArrC 1 rfl rfl rfl (by omega)|exact .indexArrC 2 rfl rfl rfl (by omega)|exact .add _ rfl rfl (wrap_i64 (by omega))|exact .sub _ rfl rfl (wrap_i64 (by omega))|exact .rem _ rfl rfl (by decide) (Int.tmod_eq_emod_of_nonneg (by omega))|exact .cmpT rfl rfl rfl (by unfold cmpP;omega)|exact .cmpF rfl rfl rfl (by unfold cmpP;omega)|fail)|fail)
    refine C.draw 5 (fun wq => Keep Non w4 wq) [3] mixed rfl (fun w6 kw6 ew6 => ?_)
    ((refine .take 0 rfl (by kernel_rfl) rfl rfl (.move rfl) ?_); (refine .read 1 rfl (by kernel_rfl) rfl rfl (by assumption) (.load rfl (fun w hw => (by (first|apply Ld.oneC|apply Ld.two|apply Ld.three|apply Ld.four|apply Ld.five);repeat(apply Keep.cell hw;(first|assumption|exact Row.cell (by assumption) (by first|rfl|assumption));first|exact non_not _|assumption|(intro e;omega)|(simp;omega))))) ?_); (refine .take 2 rfl (by kernel_rfl) rfl rfl (.assign rfl) ?_))
    have r36 := r3.keep kw6 (non_not _)
    refine D.one0 3 rfl (by kernel_rfl) rfl (St.storeC rfl rfl rfl r36 (by simp [Value.cells]) (one3 rfl rfl rfl)) (fun v7 w7 h7 => ⟨fun h => absurd h (by decide), ?_⟩)
    have r37 : Row w7 b3 45 [.int .i64 0, .int .i64 p.1, .int .i64 p.2] := h7.row
    have own7 := own_keep h7.keep (own_keep kw6 own (fun _ _ => non_not _)) (fun b hb e => by have := own.lt b hb; have e' : b = b3 := e; omega)
    ((refine .take 4 rfl (by kernel_rfl) rfl rfl (.assign rfl) ?_))
    refine D.fin (by kernel_rfl) ?_
    (repeat first|refine .seq ?_|refine .region ?_|refine .block ?_|refine .skip ?_|refine .ret ?_|refine .exit ?_|refine .yes rfl ?_|refine .no rfl ?_|refine .nil ?_|refine .go ?_|refine .thenExit ?_|refine .thenRet ?_|refine .inExit ?_|refine .outExit rfl ?_|refine .inNormal ?_|refine .inRet ?_|refine .off rfl rfl ?_|refine .offU rfl rfl rfl ?_|(apply W.y rfl rfl;first|exact .move rfl|exact .assign rfl|exact .fieldC rfl|exact .loadW rfl (by (first|apply Ld.oneC|apply Ld.two|apply Ld.three|apply Ld.four|apply Ld.five);repeat(first|assumption|exact Row.cell (by assumption) (by first|rfl|assumption)))|exact .nilCheck rfl|exact .lenC rfl|exact .lenStrC rfl|exact .extract rfl rfl|exact .not rfl|exact .pickT rfl rfl|exact .pickF rfl rfl|exact .buildC rfl rfl|exact .indexC _ rfl rfl rfl (by omega)|exact .indexC 0 rfl rfl rfl (by omega)|exact .indexC 1 rfl rfl rfl (by omega)|exact .indexC 2 rfl rfl rfl (by omega)|exact .indexArrC _ rfl rfl rfl (by omega)|exact .indexArrC 0 rfl rfl rfl (by omega)|exact .indexArrC 1 rfl rfl rfl (by omega)|exact .indexArrC 2 rfl rfl rfl (by omega)|exact .add _ rfl rfl (wrap_i64 (by omega))|exact .sub _ rfl rfl (wrap_i64 (by omega))|exact .rem _ rfl rfl (by decide) (Int.tmod_eq_emod_of_nonneg (by omega))|exact .cmpT rfl rfl rfl (by unfold cmpP;omega)|exact .cmpF rfl rfl rfl (by unfold cmpP;omega)|fail)|fail)
    refine E.retM rfl rfl rfl (Ld.three (r37.cell (j := 0) rfl) (r37.cell (j := 1) rfl) (r37.cell (j := 2) rfl)) rfl ⟨_, rfl, Sl.of_own own7 rfl (by omega) (fun b hb => by have := own7.lt b hb; omega) (fun i x hx => rflat_get _ i x hx), (k4.then kw6).put h7 (by omega)⟩
end Go.Proofs.YtmlhjahbbcgpaaaDoor
