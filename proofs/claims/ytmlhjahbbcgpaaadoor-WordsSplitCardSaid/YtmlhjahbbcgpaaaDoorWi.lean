/- Plain laws of Split: what its words are; texts made of words. -/
import Derived.Test.YtmlhjahbbcgpaaaDoorWh
import Derived.Lib.TrimAscii
namespace Go.Proofs.YtmlhjahbbcgpaaaDoor
open Vb

theorem dec_ascii (b : UInt8) (t : Bs) (h : b.toNat < 128) : dec (b :: t) = (b.toNat, 1) := Lib.decodeL_ascii b t h
theorem okd_lt {c n : Nat} (h : c < 128) : okd (c, n) = true := by
  have : c ≠ 65533 := by omega
  simp [okd, this]
/-- A piece of text whose runes are known, whatever follows. -/
def Piece (p : Bs) (l : List Nat) : Prop := ∀ t, runes (p ++ t) = (l ++ (runes t).1, (runes t).2)
theorem Piece.nil : Piece [] [] := fun t => rfl
theorem Piece.app {p q : Bs} {k l : List Nat} (h : Piece p k) (h' : Piece q l) : Piece (p ++ q) (k ++ l) := fun t => by
  rw [List.append_assoc, h, h', List.append_assoc]
theorem Piece.ascii (a : Bs) (h : ∀ b ∈ a, b.toNat < 128) : Piece a (a.map UInt8.toNat) := by
  induction a with
  | nil => exact Piece.nil
  | cons b a ih =>
    intro t
    have hb := h b (by simp)
    have hd := dec_ascii b (a ++ t) hb
    rw [List.cons_append, runes_ok (by simp) (by rw [hd]; exact okd_lt hb), hd]
    rw [show (b :: (a ++ t)).drop (b.toNat, 1).2 = a ++ t from rfl, ih (fun x hx => h x (by simp [hx])) t]
    rfl
theorem Piece.all {p : Bs} {l : List Nat} (h : Piece p l) : runes p = (l, true) := by
  have := h []
  rw [List.append_nil, runes_nil] at this
  simpa using this
theorem mach_app (M : MS) (a b : List Nat) : mach M (a ++ b) = mach (mach M a) b := List.foldl_append

/-- What Split's words are. -/
def WOK (x : WV) : Prop := 1 ≤ x.line ∧ ((x.name = true ∧ x.text ≠ [] ∧ ∀ b ∈ x.text, 97 ≤ b.toNat ∧ b.toNat ≤ 122) ∨ (x.name = false ∧ (x.text = [40] ∨ x.text = [41] ∨ x.text = [44] ∨ x.text = [61] ∨ x.text = [59])))
theorem WOK.lt {x : WV} (h : WOK x) : ∀ b ∈ x.text, b.toNat < 128 := by
  rcases h.2 with ⟨_, _, h⟩ | ⟨_, h⟩
  · intro b hb; have := h b hb; omega
  · rcases h with e | e | e | e | e <;> (rw [e]; decide)
structure MInv (M : MS) : Prop where
  ok : ∀ x ∈ M.out, WOK x
  at1 : 1 ≤ M.at_.1
  sh : M.bad.1 = 0 → ∀ x ∈ M.out, x.text.length ≤ 16
  op : M.open_ = true → ∃ pre x, M.out = pre ++ [x] ∧ x.name = true
theorem MInv.init : MInv MS.init := ⟨fun x hx => by simp [MS.init] at hx, Nat.le_refl _, fun _ x hx => by simp [MS.init] at hx, fun h => by cases h⟩
theorem letter_toNat {c : Nat} (h : isL c = true) : (UInt8.ofNat c).toNat = c ∧ 97 ≤ c ∧ c ≤ 122 := by
  have h' : 97 ≤ c ∧ c ≤ 122 := by simpa [isL] using h
  refine ⟨?_, h'⟩
  rw [UInt8.toNat_ofNat']; omega
theorem sgn_text {c : Nat} (h : sgn c ≠ []) : sgn c = [40] ∨ sgn c = [41] ∨ sgn c = [44] ∨ sgn c = [61] ∨ sgn c = [59] := by
  unfold sgn at h ⊢
  split
  · rename_i h1
    rcases h1 with e | e | e | e | e <;> (subst e; decide)
  · split
    · decide
    · split
      · decide
      · rename_i h1 h2 h3; rw [if_neg h1, if_neg h2, if_neg h3] at h; exact absurd rfl h
theorem stepP_pos (p : Nat × Nat) (c : Nat) (h : 1 ≤ p.1) : 1 ≤ (stepP p c).1 := by unfold stepP; split <;> simp <;> omega
theorem MInv.step {M : MS} (h : MInv M) (c : Nat) : MInv (M.step c) := by
  obtain ⟨out, bad, at_, remark, open_⟩ := M
  obtain ⟨ok, at1, sh, op⟩ := h
  simp only at ok at1 sh op
  have hp := stepP_pos at_ c at1
  have hsnoc : ∀ z : WV, WOK z → z.text.length ≤ 16 → (∀ x ∈ out ++ [z], WOK x) ∧ (bad.1 = 0 → ∀ x ∈ out ++ [z], x.text.length ≤ 16) := fun z hz hl =>
    ⟨fun x hx => by rcases List.mem_append.1 hx with hx | hx; exact ok x hx; simp only [List.mem_singleton] at hx; subst hx; exact hz,
     fun hb x hx => by rcases List.mem_append.1 hx with hx | hx; exact sh hb x hx; simp only [List.mem_singleton] at hx; subst hx; exact hl⟩
  unfold MS.step
  split
  · exact ⟨ok, hp, sh, fun h => by cases h⟩
  · split
    · rename_i hr hL
      obtain ⟨e1, e2, e3⟩ := letter_toNat hL
      split
      · rename_i ho
        obtain ⟨pre, x, rfl, hxn⟩ := op ho
        have hxo := ok x (by simp)
        have hlast : (MS.mk (pre ++ [x]) bad at_ remark open_).lastOf = x := by simp [MS.lastOf]
        rw [hlast]
        simp only
        rw [grow_snoc]
        have hw : WOK { x with text := x.text ++ [UInt8.ofNat c] } := by
          refine ⟨hxo.1, ?_⟩
          rcases hxo.2 with ⟨h1, h2, h3⟩ | ⟨h1, _⟩
          · refine .inl ⟨h1, by simp, fun b hb => ?_⟩
            rcases List.mem_append.1 hb with hb | hb
            · exact h3 b hb
            · simp only [List.mem_singleton] at hb; subst hb; rw [e1]; exact ⟨e2, e3⟩
          · rw [hxn] at h1; cases h1
        refine ⟨fun y hy => ?_, hp, fun hb y hy => ?_, fun _ => ⟨pre, _, rfl, hxn⟩⟩
        · rcases List.mem_append.1 hy with hy | hy
          · exact ok y (by simp [hy])
          · simp only [List.mem_singleton] at hy; subst hy; exact hw
        · have h16 : ¬ (16 < x.text.length + 1 ∧ bad.1 = 0) ∧ bad.1 = 0 := by
            by_cases hc : 16 < x.text.length + 1 ∧ bad.1 = 0
            · rw [if_pos hc] at hb
              have := hxo.1
              simp only at hb; omega
            · rw [if_neg hc] at hb; exact ⟨hc, hb⟩
          rcases List.mem_append.1 hy with hy | hy
          · exact sh h16.2 y (by simp [hy])
          · simp only [List.mem_singleton] at hy; subst hy
            simp only [List.length_append, List.length_singleton]
            omega
      · have hz := hsnoc ⟨true, [UInt8.ofNat c], at_.1, at_.2⟩ ⟨at1, .inl ⟨rfl, by simp, fun b hb => by simp only [List.mem_singleton] at hb; subst hb; rw [e1]; exact ⟨e2, e3⟩⟩⟩ (by simp)
        exact ⟨hz.1, hp, hz.2, fun _ => ⟨out, _, rfl, rfl⟩⟩
    · split
      · exact ⟨ok, hp, sh, fun h => by cases h⟩
      · split
        · rename_i hs
          have ht := sgn_text hs
          have hz := hsnoc ⟨false, sgn c, at_.1, at_.2⟩ ⟨at1, .inr ⟨rfl, ht⟩⟩ (by rcases ht with e | e | e | e | e <;> (simp only [e]; decide))
          exact ⟨hz.1, hp, hz.2, fun h => by cases h⟩
        · split
          · refine ⟨ok, hp, fun hb => ?_, fun h => by cases h⟩
            simp only at hb; omega
          · exact ⟨ok, hp, sh, fun h => by cases h⟩
theorem MInv.mach (l : List Nat) : ∀ M : MS, MInv M → MInv (mach M l) := by
  induction l with
  | nil => intro M h; exact h
  | cons c l ih => intro M h; exact ih _ (h.step c)
/-- What Split answers without an error: sound words. -/
theorem split_words (s : Bs) (h : (splitP s).2.2.2 = 0) : (∀ x ∈ (splitP s).1, WOK x ∧ x.text.length ≤ 16) := by
  have hm := MInv.mach (runes s).1 _ MInv.init
  unfold splitP at h ⊢
  split
  · simp
  · simp only at h ⊢
    split
    · simp
    · split
      · simp
      · intro x hx
        exact ⟨hm.ok x hx, hm.sh (by omega) x hx⟩
theorem split_bad (s : Bs) (h : (splitP s).2.2.2 ≠ 0) : (splitP s).1 = [] := by
  unfold splitP at h ⊢
  split
  · rfl
  · simp only at h ⊢
    split
    · rfl
    · split
      · rfl
      · rename_i h1 h2 h3
        rw [if_neg h1, if_neg h2, if_neg h3] at h
        exact absurd rfl h
/-- A word read where no name is open. -/
theorem mach_letters (cs : Bs) : ∀ (out : List WV) (x : WV) (bad at_ : Nat × Nat), (∀ b ∈ cs, 97 ≤ b.toNat ∧ b.toNat ≤ 122) → x.text.length + cs.length ≤ 16 →
    mach ⟨out ++ [x], bad, at_, false, true⟩ (cs.map UInt8.toNat) = ⟨out ++ [{ x with text := x.text ++ cs }], bad, (at_.1, at_.2 + cs.length), false, true⟩ := by
  induction cs with
  | nil => intro out x bad at_ _ _; simp [mach]
  | cons c cs ih =>
    intro out x bad at_ h hl
    have hc := h c (by simp)
    have hL : isL c.toNat = true := by simp [isL, hc]
    rw [List.length_cons] at hl
    have e : (MS.mk (out ++ [x]) bad at_ false true).step c.toNat = ⟨out ++ [{ x with text := x.text ++ [c] }], bad, (at_.1, at_.2 + 1), false, true⟩ := by
      have h10 : c.toNat ≠ 10 := by omega
      have h16 : ¬ 16 < x.text.length + 1 := by omega
      simp [MS.step, hL, MS.lastOf, grow_snoc, stepP, h10, h16]
    rw [List.map_cons]
    show mach ((MS.mk (out ++ [x]) bad at_ false true).step c.toNat) (cs.map UInt8.toNat) = _
    rw [e, ih out _ bad _ (fun b hb => h b (by simp [hb])) (by simp; omega)]
    simp [Nat.add_assoc, Nat.add_comm 1]
theorem mach_word (x : WV) (hx : WOK x) (hl : x.text.length ≤ 16) (out : List WV) (bad at_ : Nat × Nat) (o : Bool) (ho : x.name = true → o = false) :
    mach ⟨out, bad, at_, false, o⟩ (x.text.map UInt8.toNat) = ⟨out ++ [⟨x.name, x.text, at_.1, at_.2⟩], bad, (at_.1, at_.2 + x.text.length), false, x.name⟩ := by
  rcases hx.2 with ⟨h1, h2, h3⟩ | ⟨h1, h2⟩
  · have := ho h1; subst this
    obtain ⟨name, text, line, col⟩ := x
    simp only at h1 h2 h3 hl ⊢
    subst h1
    cases text with
    | nil => exact absurd rfl h2
    | cons c cs =>
      have hc := h3 c (by simp)
      have hL : isL c.toNat = true := by simp [isL, hc]
      have h10 : c.toNat ≠ 10 := by omega
      have e : (MS.mk out bad at_ false false).step c.toNat = ⟨out ++ [⟨true, [c], at_.1, at_.2⟩], bad, (at_.1, at_.2 + 1), false, true⟩ := by
        simp [MS.step, hL, stepP, h10]
      rw [List.map_cons]
      show mach ((MS.mk out bad at_ false false).step c.toNat) (cs.map UInt8.toNat) = _
      rw [List.length_cons] at hl
      rw [e, mach_letters cs out _ bad _ (fun b hb => h3 b (by simp [hb])) (by simp; omega)]
      simp [Nat.add_assoc, Nat.add_comm 1]
  · obtain ⟨name, text, line, col⟩ := x
    simp only at h1 h2 ⊢
    subst h1
    rcases h2 with rfl | rfl | rfl | rfl | rfl <;> rfl
theorem mach_space (out : List WV) (bad at_ : Nat × Nat) (o : Bool) : mach ⟨out, bad, at_, false, o⟩ [32] = ⟨out, bad, (at_.1, at_.2 + 1), false, false⟩ := by
  simp [mach, MS.step, isL, sgn, blank, stepP]

/-! ### Again -/
def rejoin (l : List WV) : Bs := l.flatMap (fun x => x.text ++ [32])
def relay : Nat → List WV → List WV
  | _, [] => []
  | k, x :: l => ⟨x.name, x.text, 1, k⟩ :: relay (k + (x.text.length + 1)) l
theorem relay_length (l : List WV) : ∀ k, (relay k l).length = l.length := by
  induction l with
  | nil => intro k; rfl
  | cons x l ih => intro k; simp [relay, ih]
theorem rejoin_lt (l : List WV) (h : ∀ x ∈ l, WOK x ∧ x.text.length ≤ 16) : ∀ b ∈ rejoin l, b.toNat < 128 := by
  intro b hb
  obtain ⟨x, hx, hb⟩ := List.mem_flatMap.1 hb
  rcases List.mem_append.1 hb with hb | hb
  · exact (h x hx).1.lt b hb
  · simp only [List.mem_singleton] at hb; subst hb; decide
theorem mach_rejoin (l : List WV) : ∀ (out : List WV) (k : Nat), (∀ x ∈ l, WOK x ∧ x.text.length ≤ 16) →
    (mach ⟨out, (0, 0), (1, k), false, false⟩ ((rejoin l).map UInt8.toNat)).out = out ++ relay k l ∧ (mach ⟨out, (0, 0), (1, k), false, false⟩ ((rejoin l).map UInt8.toNat)).bad = (0, 0) := by
  induction l with
  | nil => intro out k _; simp [rejoin, mach, relay]
  | cons x l ih =>
    intro out k h
    have hx := h x (by simp)
    have e : (rejoin (x :: l)).map UInt8.toNat = x.text.map UInt8.toNat ++ ([32] ++ (rejoin l).map UInt8.toNat) := by simp [rejoin]
    rw [e, mach_app, mach_word x hx.1 hx.2 out _ _ false (fun _ => rfl), mach_app, mach_space]
    have := ih (out ++ [⟨x.name, x.text, 1, k⟩]) (k + x.text.length + 1) (fun y hy => h y (by simp [hy]))
    simp only
    rw [this.1, this.2]
    refine ⟨?_, rfl⟩
    rw [List.append_assoc]
    rfl
theorem split_rejoin (l : List WV) (h : ∀ x ∈ l, WOK x ∧ x.text.length ≤ 16) : splitP (rejoin l) = if 1024 < (rejoin l).length then ([], 0, 0, 3) else (relay 1 l, 0, 0, 0) := by
  have hr := (Piece.ascii _ (rejoin_lt l h)).all
  have hm := mach_rejoin l [] 1 h
  unfold splitP
  split
  · rfl
  · rw [hr]
    simp only
    have e : MS.init = ⟨[], (0, 0), (1, 1), false, false⟩ := rfl
    rw [e, hm.1, hm.2]
    simp
end Go.Proofs.YtmlhjahbbcgpaaaDoor
