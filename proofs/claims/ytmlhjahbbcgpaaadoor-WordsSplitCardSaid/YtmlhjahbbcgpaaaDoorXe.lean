/- The reference's Split, in plain Lean: the machine, rune by rune. -/
import Derived.Test.YtmlhjahbbcgpaaaDoorXc
namespace Go.Proofs.YtmlhjahbbcgpaaaDoor
open Vb

abbrev mof (rs : List Nat) (i : Nat) : MS := mach MS.init (rs.take i)
theorem mof_succ {rs : List Nat} {i c : Nat} (h : rs[i]? = some c) : mof rs (i + 1) = (mof rs i).step c := by
  obtain ⟨h1, rfl⟩ := List.getElem?_eq_some_iff.1 h
  unfold mof
  rw [List.take_succ_eq_append_getElem h1, mach_app]; rfl
theorem mof_all {rs : List Nat} {i : Nat} (h : rs.length ≤ i) : mof rs i = mach MS.init rs := by unfold mof; rw [List.take_of_length_le h]
theorem mof_at (rs : List Nat) (i : Nat) : (mof rs i).at_ = placeOf (1, 1) (rs.take i) := mach_at _ _
theorem bad_step {M : MS} (h : M.bad.1 ≠ 0) (c : Nat) : (M.step c).bad = M.bad := by
  unfold MS.step
  repeat' split
  all_goals first | rfl | (rename_i h'; exact absurd h'.2 h) | simp [h]
theorem bad_stays (l : List Nat) : ∀ M : MS, M.bad.1 ≠ 0 → (mach M l).bad = M.bad := by
  induction l with
  | nil => intro M _; rfl
  | cons c l ih =>
    intro M h
    have h1 := bad_step h c
    have := ih (M.step c) (by rw [h1]; exact h)
    rw [h1] at this
    exact this
theorem mof_bad {rs : List Nat} {k : Nat} (h : (mof rs k).bad.1 ≠ 0) : (mach MS.init rs).bad = (mof rs k).bad := by
  have := bad_stays (rs.drop k) (mof rs k) h
  rw [← mach_app, List.take_append_drop] at this
  exact this
theorem placed_get (l : List Nat) : ∀ (p : Nat × Nat) (i c : Nat), l[i]? = some c → (placed p l)[i]? = some ⟨c, (placeOf p (l.take i)).1, (placeOf p (l.take i)).2⟩ := by
  induction l with
  | nil => intro p i c h; simp at h
  | cons d l ih =>
    intro p i c h
    cases i with
    | zero => simp at h; subst h; simp [placed, placeOf]
    | succ i =>
      have := ih (stepP p d) i c (by simpa using h)
      simpa [placed, placeOf] using this
/-- Where the reference's loop stands. -/
structure IV (rs : List Nat) (i : Nat) (out : List WV) : Prop where
  hi : i ≤ rs.length + 1
  ho : (mof rs i).out = out
  hb : (mof rs i).bad.1 = 0
  hr : i < rs.length → (mof rs i).remark = false ∧ ((mof rs i).open_ = true → ∀ c, rs[i]? = some c → isL c = false)
theorem IV.init (rs : List Nat) : IV rs 0 [] := ⟨by omega, by simp [MS.init, mach], by simp [MS.init, mach], fun _ => ⟨by simp [MS.init, mach], fun h => by simp [MS.init, mach] at h⟩⟩
theorem IV.out_le {rs : List Nat} {i : Nat} {out : List WV} (h : IV rs i out) : out.length ≤ rs.length := by
  have := out_len (rs.take i) MS.init
  have h2 := h.ho
  unfold mof at h2
  rw [h2] at this
  rw [List.length_take] at this
  have h0 : MS.init.out.length = 0 := rfl
  omega
theorem mof_parts (M : MS) : M = ⟨M.out, M.bad, M.at_, M.remark, M.open_⟩ := rfl
/-- A remark begins. -/
theorem remark_step {M : MS} (hr : M.remark = false) : (M.step 35).out = M.out ∧ (M.step 35).bad = M.bad ∧ (M.step 35).remark = true ∧ (M.step 35).open_ = false := by
  simp [MS.step, hr, isL]
theorem remark_on {M : MS} (hr : M.remark = true) (c : Nat) (hc : c ≠ 10) : (M.step c).out = M.out ∧ (M.step c).bad = M.bad ∧ (M.step c).remark = true ∧ (M.step c).open_ = false := by
  simp [MS.step, hr, hc]
theorem remark_end {M : MS} (hr : M.remark = true) : (M.step 10).out = M.out ∧ (M.step 10).bad = M.bad ∧ (M.step 10).remark = false ∧ (M.step 10).open_ = false := by
  simp [MS.step, hr]
/-- A name, letter by letter. -/
structure NV (rs : List Nat) (i k : Nat) (out : List WV) (t : Bs) : Prop where
  lt : i < k
  le : k ≤ rs.length
  len : t.length = k - i
  ho : (mof rs k).out = out ++ [⟨true, t, (mof rs i).at_.1, (mof rs i).at_.2⟩]
  hb : (mof rs k).bad.1 ≠ 0 → (mof rs k).bad = (mof rs i).at_
  hb2 : (mof rs k).bad.1 ≠ 0 ↔ 16 < t.length
  hr : (mof rs k).remark = false
  hop : (mof rs k).open_ = true
theorem at_pos (rs : List Nat) (i : Nat) : 1 ≤ (mof rs i).at_.1 := by
  rw [mof_at]; exact (placeOf_pos _ (1, 1) (Nat.le_refl _) (Nat.le_refl _)).1
theorem NV.first {rs : List Nat} {i c : Nat} {out : List WV} (h : IV rs i out) (hc : rs[i]? = some c) (hL : isL c = true) : NV rs i (i + 1) out [UInt8.ofNat c] := by
  have hlt := (List.getElem?_eq_some_iff.1 hc).1
  obtain ⟨hr, hop⟩ := h.hr hlt
  have ho : (mof rs i).open_ = false := by
    cases hq : (mof rs i).open_
    · rfl
    · have := hop hq c hc; rw [hL] at this; cases this
  have e := mof_succ hc
  have hb := h.hb
  have hout := h.ho
  refine ⟨by omega, by omega, by simp, ?_, ?_, ?_, ?_, ?_⟩
  all_goals rw [e]
  · simp [MS.step, hr, hL, ho, hout]
  · simp [MS.step, hr, hL, ho, hb]
  · simp [MS.step, hr, hL, ho, hb]
  · simp [MS.step, hr, hL, ho]
  · simp [MS.step, hr, hL, ho]
theorem NV.next {rs : List Nat} {i k c : Nat} {out : List WV} {t : Bs} (h : NV rs i k out t) (hc : rs[k]? = some c) (hL : isL c = true) : NV rs i (k + 1) out (t ++ [UInt8.ofNat c]) := by
  have hlt := (List.getElem?_eq_some_iff.1 hc).1
  obtain ⟨h1, h2, h3, h4, h5, h6, h7, h8⟩ := h
  have e := mof_succ hc
  have hp := at_pos rs i
  have hlast : (mof rs k).lastOf = ⟨true, t, (mof rs i).at_.1, (mof rs i).at_.2⟩ := by simp [MS.lastOf, h4]
  generalize hA : mof rs i = A at *
  generalize hB : mof rs k = B at *
  have hg : grow c B.out = out ++ [⟨true, t ++ [UInt8.ofNat c], A.at_.1, A.at_.2⟩] := by rw [h4, grow_snoc]
  refine ⟨by omega, by omega, by simp; omega, ?_, ?_, ?_, ?_, ?_⟩
  all_goals (rw [e]; try rw [hA])
  · simp [MS.step, h7, hL, h8, hg]
  · simp only [MS.step, h7, hL, h8, hlast, if_true, Bool.false_eq_true, if_false]
    split
    · intro _; rfl
    · exact h5
  · simp only [MS.step, h7, hL, h8, hlast, if_true, Bool.false_eq_true, if_false]
    rw [List.length_append, List.length_singleton]
    split
    · rename_i hc; simp only; omega
    · rename_i hc; rw [h6]; omega
  · simp [MS.step, h7, hL, h8]
  · simp [MS.step, h7, hL, h8]
theorem NV.done {rs : List Nat} {i k : Nat} {out : List WV} {t : Bs} (h : NV rs i k out t) (h16 : ¬ 16 < t.length) (hs : ∀ c, rs[k]? = some c → isL c = false) : IV rs k (out ++ [⟨true, t, (mof rs i).at_.1, (mof rs i).at_.2⟩]) :=
  ⟨by have := h.le; omega, h.ho, by by_cases hq : (mof rs k).bad.1 = 0; exact hq; exact absurd (h.hb2.1 hq) h16, fun _ => ⟨h.hr, fun _ => hs⟩⟩
theorem NV.bad {rs : List Nat} {i k : Nat} {out : List WV} {t : Bs} (h : NV rs i k out t) (h16 : 16 < t.length) : (mach MS.init rs).bad = (mof rs i).at_ := by
  have h1 := h.hb2.2 h16
  rw [mof_bad h1]; exact h.hb h1
theorem IV.sign {rs : List Nat} {i c : Nat} {out : List WV} (h : IV rs i out) (hc : rs[i]? = some c) (hL : isL c = false) (h35 : c ≠ 35) (hs : sgn c ≠ []) : IV rs (i + 1) (out ++ [⟨false, sgn c, (mof rs i).at_.1, (mof rs i).at_.2⟩]) := by
  have hlt := (List.getElem?_eq_some_iff.1 hc).1
  obtain ⟨hr, hop⟩ := h.hr hlt
  have e := mof_succ hc
  have hb := h.hb
  have hout := h.ho
  refine ⟨by omega, ?_, ?_, fun _ => ⟨?_, ?_⟩⟩
  all_goals rw [e]
  · simp [MS.step, hr, hL, h35, hs, hout]
  · simp [MS.step, hr, hL, h35, hs, hb]
  · simp [MS.step, hr, hL, h35, hs]
  · simp [MS.step, hr, hL, h35, hs]
theorem IV.blank {rs : List Nat} {i c : Nat} {out : List WV} (h : IV rs i out) (hc : rs[i]? = some c) (hL : isL c = false) (h35 : c ≠ 35) (hs : sgn c = []) (hbl : blank c = true) : IV rs (i + 1) out := by
  have hlt := (List.getElem?_eq_some_iff.1 hc).1
  obtain ⟨hr, hop⟩ := h.hr hlt
  have e := mof_succ hc
  have hb := h.hb
  have hout := h.ho
  refine ⟨by omega, ?_, ?_, fun _ => ⟨?_, ?_⟩⟩
  all_goals rw [e]
  · simp [MS.step, hr, hL, h35, hs, hbl, hout]
  · simp [MS.step, hr, hL, h35, hs, hbl, hb]
  · simp [MS.step, hr, hL, h35, hs, hbl]
  · simp [MS.step, hr, hL, h35, hs, hbl]
theorem IV.odd {rs : List Nat} {i c : Nat} {out : List WV} (h : IV rs i out) (hc : rs[i]? = some c) (hL : isL c = false) (h35 : c ≠ 35) (hs : sgn c = []) (hbl : Go.Proofs.YtmlhjahbbcgpaaaDoor.blank c = false) : (mach MS.init rs).bad = (mof rs i).at_ := by
  have hlt := (List.getElem?_eq_some_iff.1 hc).1
  obtain ⟨hr, hop⟩ := h.hr hlt
  have e := mof_succ hc
  have hb := h.hb
  have hp := at_pos rs i
  have e2 : (mof rs (i + 1)).bad = (mof rs i).at_ := by rw [e]; simp [MS.step, hr, hL, h35, hs, hbl, hb]
  rw [mof_bad (k := i + 1) (by rw [e2]; omega), e2]
end Go.Proofs.YtmlhjahbbcgpaaaDoor
