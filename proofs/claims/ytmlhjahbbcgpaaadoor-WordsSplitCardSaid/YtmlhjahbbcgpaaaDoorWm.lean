/- Plain laws of Split: gaps; signs; a text moved by what stands before it. -/
import Derived.Test.YtmlhjahbbcgpaaaDoorWi
import Derived.Lib.TrimUEq
namespace Go.Proofs.YtmlhjahbbcgpaaaDoor
open Vb

theorem Piece.one {p : Bs} {c n : Nat} (hp : p ≠ []) (hd : ∀ t, dec (p ++ t) = (c, n)) (hn : n = p.length) (ho : okd (c, n) = true) : Piece p [c] := fun t => by
  have hne : p ++ t ≠ [] := by simp [hp]
  rw [runes_ok hne (by rw [hd]; exact ho), hd]
  simp only
  rw [hn, List.drop_left' rfl]
  rfl
theorem dec_two (a b : UInt8) (t : Bs) : dec (a :: b :: t) = Lib.decodeN (t.length + 2) a.toNat b.toNat ((a :: b :: t).getD 2 0).toNat ((a :: b :: t).getD 3 0).toNat := Lib.decodeL_N _
theorem Piece.nbsp : Piece [194, 160] [160] := Piece.one (n := 2) (by simp) (fun t => by
  rw [List.cons_append, List.cons_append, List.nil_append, dec_two]
  have : 1 < t.length + 2 := by omega
  simp [Lib.decodeN]) rfl rfl
theorem Piece.e : Piece [195, 169] [233] := Piece.one (n := 2) (by simp) (fun t => by
  rw [List.cons_append, List.cons_append, List.nil_append, dec_two]
  have : 1 < t.length + 2 := by omega
  simp [Lib.decodeN]) rfl rfl
theorem dec_three (a b c : UInt8) (t : Bs) : dec (a :: b :: c :: t) = Lib.decodeN (t.length + 3) a.toNat b.toNat c.toNat ((a :: b :: c :: t).getD 3 0).toNat := Lib.decodeL_N _
theorem Piece.wide : Piece [227, 128, 128] [12288] := Piece.one (n := 3) (by simp) (fun t => by
  rw [List.cons_append, List.cons_append, List.cons_append, List.nil_append, dec_three]
  have : 1 < t.length + 3 := by omega
  have : 2 < t.length + 3 := by omega
  simp [Lib.decodeN]) rfl rfl
theorem Piece.arrow : Piece [226, 134, 144] [8592] := Piece.one (n := 3) (by simp) (fun t => by
  rw [List.cons_append, List.cons_append, List.cons_append, List.nil_append, dec_three]
  have : 1 < t.length + 3 := by omega
  have : 2 < t.length + 3 := by omega
  simp [Lib.decodeN]) rfl rfl
theorem Piece.and : Piece [226, 136, 167] [8743] := Piece.one (n := 3) (by simp) (fun t => by
  rw [List.cons_append, List.cons_append, List.cons_append, List.nil_append, dec_three]
  have : 1 < t.length + 3 := by omega
  have : 2 < t.length + 3 := by omega
  simp [Lib.decodeN]) rfl rfl
theorem Piece.a1 (a : UInt8) (h : a.toNat < 128) : Piece [a] [a.toNat] := Piece.ascii [a] (fun b hb => by simp only [List.mem_singleton] at hb; subst hb; exact h)

/-! ### Gaps -/
def gapB : Nat → Bs
  | 0 => [32] | 1 => [9] | 2 => [10] | 3 => [194, 160] | 4 => [227, 128, 128] | 5 => [35, 120, 40, 195, 169, 10] | 6 => [13, 10] | _ => [32, 32]
def gapR : Nat → List Nat
  | 0 => [32] | 1 => [9] | 2 => [10] | 3 => [160] | 4 => [12288] | 5 => [35, 120, 40, 233, 10] | 6 => [13, 10] | _ => [32, 32]
theorem gap_piece (k : Nat) : Piece (gapB k) (gapR k) := by
  unfold gapB gapR
  split
  · exact Piece.a1 32 (by decide)
  · exact Piece.a1 9 (by decide)
  · exact Piece.a1 10 (by decide)
  · exact Piece.nbsp
  · exact Piece.wide
  · exact ((Piece.ascii [35, 120, 40] (by decide)).app Piece.e).app (Piece.a1 10 (by decide))
  · exact Piece.ascii [13, 10] (by decide)
  · exact Piece.ascii [32, 32] (by decide)
theorem gap_mach (k : Nat) (out : List WV) (p : Nat × Nat) (o : Bool) : mach ⟨out, (0, 0), p, false, o⟩ (gapR k) = ⟨out, (0, 0), placeOf p (gapR k), false, false⟩ := by
  unfold gapR
  split <;> rfl
theorem gap_len (k : Nat) : (gapB k).length ≤ 6 := by
  unfold gapB
  split <;> decide
def gapsB (l : List Nat) : Bs := l.flatMap gapB
def gapsR (l : List Nat) : List Nat := l.flatMap gapR
theorem gaps_piece (l : List Nat) : Piece (gapsB l) (gapsR l) := by
  induction l with
  | nil => exact Piece.nil
  | cons k l ih => exact (gap_piece k).app ih
theorem placeOf_app (p : Nat × Nat) (a b : List Nat) : placeOf p (a ++ b) = placeOf (placeOf p a) b := List.foldl_append
theorem gaps_mach (l : List Nat) : ∀ (out : List WV) (p : Nat × Nat), mach ⟨out, (0, 0), p, false, false⟩ (gapsR l) = ⟨out, (0, 0), placeOf p (gapsR l), false, false⟩ := by
  induction l with
  | nil => intro out p; rfl
  | cons k l ih =>
    intro out p
    have e : gapsR (k :: l) = gapR k ++ gapsR l := rfl
    rw [e, mach_app, gap_mach, ih, placeOf_app]
theorem gaps_len (l : List Nat) : (gapsB l).length ≤ l.length * 6 := by
  induction l with
  | nil => simp [gapsB]
  | cons k l ih =>
    have e : gapsB (k :: l) = gapB k ++ gapsB l := rfl
    have := gap_len k
    rw [e, List.length_append, List.length_cons]; omega
theorem placeOf_pos (l : List Nat) : ∀ p : Nat × Nat, 1 ≤ p.1 → 1 ≤ p.2 → 1 ≤ (placeOf p l).1 ∧ 1 ≤ (placeOf p l).2 := by
  induction l with
  | nil => intro p h1 h2; exact ⟨h1, h2⟩
  | cons c l ih =>
    intro p h1 h2
    refine ih (stepP p c) ?_ ?_
    all_goals unfold stepP; split <;> simp <;> omega

/-! ### Moved -/
def mvP (e p : Nat × Nat) : Nat × Nat := (p.1 + e.1 - 1, if p.1 = 1 then p.2 + e.2 - 1 else p.2)
def mvW (e : Nat × Nat) (x : WV) : WV := ⟨x.name, x.text, (mvP e (x.line, x.col)).1, (mvP e (x.line, x.col)).2⟩
def mvM (e : Nat × Nat) (M : MS) : MS := ⟨M.out.map (mvW e), if M.bad.1 = 0 then M.bad else mvP e M.bad, mvP e M.at_, M.remark, M.open_⟩
theorem mvP_step (e p : Nat × Nat) (c : Nat) (h1 : 1 ≤ p.1) (he : 1 ≤ e.1) (h2 : 1 ≤ p.2) : stepP (mvP e p) c = mvP e (stepP p c) := by
  unfold stepP mvP
  by_cases hc : c = 10
  · simp only [hc, if_true]
    rw [if_neg (by omega)]
    congr 1
    omega
  · simp only [hc, if_false]
    by_cases h : p.1 = 1
    · simp only [h, if_true]; congr 1; omega
    · simp only [h, if_false]
structure PInv (M : MS) : Prop where
  at1 : 1 ≤ M.at_.1
  at2 : 1 ≤ M.at_.2
  ws : ∀ x ∈ M.out, 1 ≤ x.line ∧ 1 ≤ x.col
  bd : M.bad.1 ≠ 0 → 1 ≤ M.bad.2
  op : M.open_ = true → ∃ pre x, M.out = pre ++ [x]
theorem PInv.init : PInv MS.init := ⟨Nat.le_refl _, Nat.le_refl _, fun x hx => by simp [MS.init] at hx, fun h => absurd rfl h, fun h => by cases h⟩
theorem stepP_pos2 (p : Nat × Nat) (c : Nat) (h : 1 ≤ p.2) : 1 ≤ (stepP p c).2 := by unfold stepP; split <;> simp
theorem PInv.step {M : MS} (h : PInv M) (c : Nat) : PInv (M.step c) := by
  obtain ⟨out, bad, at_, remark, open_⟩ := M
  obtain ⟨at1, at2, ws, bd, op⟩ := h
  simp only at at1 at2 ws bd op
  have hp := stepP_pos at_ c at1
  have hp2 := stepP_pos2 at_ c at2
  have hsnoc : ∀ z : WV, z.line = at_.1 → z.col = at_.2 → ∀ x ∈ out ++ [z], 1 ≤ x.line ∧ 1 ≤ x.col := fun z h1 h2 x hx => by
    rcases List.mem_append.1 hx with hx | hx
    · exact ws x hx
    · simp only [List.mem_singleton] at hx; subst hx; rw [h1, h2]; exact ⟨at1, at2⟩
  unfold MS.step
  split
  · exact ⟨hp, hp2, ws, bd, fun h => by cases h⟩
  · split
    · split
      · rename_i ho
        obtain ⟨pre, x, rfl⟩ := op ho
        have hxo := ws x (by simp)
        have hlast : (MS.mk (pre ++ [x]) bad at_ remark open_).lastOf = x := by simp [MS.lastOf]
        rw [hlast]
        simp only
        rw [grow_snoc]
        refine ⟨hp, hp2, fun y hy => ?_, fun hb => ?_, fun _ => ⟨pre, _, rfl⟩⟩
        · rcases List.mem_append.1 hy with hy | hy
          · exact ws y (by simp [hy])
          · simp only [List.mem_singleton] at hy; subst hy; exact hxo
        · simp only at hb ⊢
          by_cases hc : 16 < x.text.length + 1 ∧ bad.1 = 0
          · rw [if_pos hc]; exact hxo.2
          · rw [if_neg hc] at hb ⊢; exact bd hb
      · exact ⟨hp, hp2, hsnoc _ rfl rfl, bd, fun _ => ⟨out, _, rfl⟩⟩
    · split
      · exact ⟨hp, hp2, ws, bd, fun h => by cases h⟩
      · split
        · exact ⟨hp, hp2, hsnoc _ rfl rfl, bd, fun h => by cases h⟩
        · split
          · exact ⟨hp, hp2, ws, fun _ => at2, fun h => by cases h⟩
          · exact ⟨hp, hp2, ws, bd, fun h => by cases h⟩
theorem mvM_step {M : MS} (h : PInv M) (e : Nat × Nat) (he : 1 ≤ e.1) (c : Nat) : (mvM e M).step c = mvM e (M.step c) := by
  obtain ⟨out, bad, at_, remark, open_⟩ := M
  obtain ⟨at1, at2, ws, bd, op⟩ := h
  simp only at at1 at2 ws bd op
  have hp := mvP_step e at_ c at1 he at2
  by_cases h1 : remark = true
  · simp [MS.step, mvM, h1, hp]
  · by_cases h2 : isL c = true
    · by_cases h3 : open_ = true
      · obtain ⟨pre, x, rfl⟩ := op h3
        have hx := ws x (by simp)
        by_cases hb : bad.1 = 0
        · by_cases h16 : 16 < x.text.length + 1
          · have hl : x.line ≠ 0 := by omega
            simp [MS.step, mvM, h1, h2, h3, hp, MS.lastOf, grow_snoc, mvW, hb, h16, hl]
          · simp [MS.step, mvM, h1, h2, h3, hp, MS.lastOf, grow_snoc, mvW, hb, h16]
        · have hb' : ¬ (mvP e bad).1 = 0 := by simp only [mvP]; omega
          simp [MS.step, mvM, h1, h2, h3, hp, MS.lastOf, grow_snoc, mvW, hb, hb']
      · simp [MS.step, mvM, h1, h2, h3, hp, mvW]
    · by_cases h4 : c = 35
      · subst h4
        simp [MS.step, mvM, h1, show isL 35 = false from rfl, hp]
      · by_cases h5 : sgn c = []
        · by_cases h6 : blank c = true
          · simp [MS.step, mvM, h1, h2, h4, h5, h6, hp]
          · by_cases hb : bad.1 = 0
            · have ha : at_.1 ≠ 0 := by omega
              simp [MS.step, mvM, h1, h2, h4, h5, h6, hp, hb, ha]
            · have hb' : ¬ (mvP e bad).1 = 0 := by simp only [mvP]; omega
              simp [MS.step, mvM, h1, h2, h4, h5, h6, hp, hb, hb']
        · simp [MS.step, mvM, h1, h2, h4, h5, hp, mvW]
theorem mvM_mach (e : Nat × Nat) (he : 1 ≤ e.1) (l : List Nat) : ∀ M : MS, PInv M → mach (mvM e M) l = mvM e (mach M l) ∧ PInv (mach M l) := by
  induction l with
  | nil => intro M h; exact ⟨rfl, h⟩
  | cons c l ih =>
    intro M h
    have := ih (M.step c) (h.step c)
    refine ⟨?_, this.2⟩
    show mach ((mvM e M).step c) l = _
    rw [mvM_step h e he]
    exact this.1
/-- Split behind gaps. -/
theorem split_moved (g : List Nat) (s : Bs) (hl : (gapsB g).length + s.length ≤ 1024) :
    splitP (gapsB g ++ s) = ((splitP s).1.map (mvW (placeOf (1, 1) (gapsR g))), if (splitP s).2.2.2 = 0 then (0, 0, 0) else ((mvP (placeOf (1, 1) (gapsR g)) ((splitP s).2.1, (splitP s).2.2.1)).1, (mvP (placeOf (1, 1) (gapsR g)) ((splitP s).2.1, (splitP s).2.2.1)).2, (splitP s).2.2.2)) ∧
    ((splitP s).2.2.2 ≠ 0 → 1 ≤ (splitP s).2.1 ∧ 1 ≤ (splitP s).2.2.1) ∧ (∀ x ∈ (splitP s).1, 1 ≤ x.line ∧ 1 ≤ x.col) := by
  have hpos := placeOf_pos (gapsR g) (1, 1) (Nat.le_refl _) (Nat.le_refl _)
  have hr := gaps_piece g s
  generalize he : placeOf (1, 1) (gapsR g) = e at *
  have h0 : mach MS.init (gapsR g) = mvM e MS.init := by
    have := gaps_mach g [] (1, 1)
    rw [he] at this
    rw [show MS.init = ⟨[], (0, 0), (1, 1), false, false⟩ from rfl, this]
    simp [mvM, mvP]
  obtain ⟨hm, hi⟩ := mvM_mach e hpos.1 (runes s).1 MS.init PInv.init
  have e1 : splitP s = if (runes s).2 = false then ([], (mach MS.init (runes s).1).at_.1, (mach MS.init (runes s).1).at_.2, 7) else if 0 < (mach MS.init (runes s).1).bad.1 then ([], (mach MS.init (runes s).1).bad.1, (mach MS.init (runes s).1).bad.2, 80) else ((mach MS.init (runes s).1).out, 0, 0, 0) := by
    unfold splitP; rw [if_neg (by omega)]
  have e2 : splitP (gapsB g ++ s) = if (runes s).2 = false then ([], (mvP e (mach MS.init (runes s).1).at_).1, (mvP e (mach MS.init (runes s).1).at_).2, 7) else if 0 < (if (mach MS.init (runes s).1).bad.1 = 0 then (mach MS.init (runes s).1).bad else mvP e (mach MS.init (runes s).1).bad).1 then ([], (if (mach MS.init (runes s).1).bad.1 = 0 then (mach MS.init (runes s).1).bad else mvP e (mach MS.init (runes s).1).bad).1, (if (mach MS.init (runes s).1).bad.1 = 0 then (mach MS.init (runes s).1).bad else mvP e (mach MS.init (runes s).1).bad).2, 80) else ((mach MS.init (runes s).1).out.map (mvW e), 0, 0, 0) := by
    unfold splitP
    rw [if_neg (by rw [List.length_append]; omega), hr]
    simp only
    rw [mach_app, h0, hm]
    rfl
  rw [e1, e2]
  by_cases hv : (runes s).2 = false
  · rw [if_pos hv, if_pos hv]
    refine ⟨rfl, fun _ => ⟨hi.at1, hi.at2⟩, fun x hx => by simp at hx⟩
  · rw [if_neg hv, if_neg hv]
    by_cases hb : (mach MS.init (runes s).1).bad.1 = 0
    · rw [if_pos hb, if_neg (by omega), if_neg (by omega)]
      exact ⟨rfl, fun h => absurd rfl h, hi.ws⟩
    · rw [if_neg hb, if_pos (by simp only [mvP]; omega), if_pos (by omega)]
      exact ⟨rfl, fun _ => ⟨by show 1 ≤ (mach MS.init (runes s).1).bad.1; omega, hi.bd hb⟩, fun x hx => by simp at hx⟩
end Go.Proofs.YtmlhjahbbcgpaaaDoor
