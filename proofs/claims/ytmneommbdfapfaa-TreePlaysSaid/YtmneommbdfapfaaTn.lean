/- The plain law of TreeRanks. -/
import Derived.Test.YtmneommbdfapfaaTm
namespace Go.Proofs.Ytmneommbdfapfaa
open Vb

theorem Sorted.lt {l : List Pr} (h : Sorted l) {i j : Nat} {p q : Pr} (hi : l[i]? = some p) (hj : l[j]? = some q) (hij : i < j) : p.1 < q.1 := by
  obtain ⟨h1, rfl⟩ := List.getElem?_eq_some_iff.1 hi
  obtain ⟨h2, rfl⟩ := List.getElem?_eq_some_iff.1 hj
  exact List.pairwise_iff_getElem.1 h i j h1 h2 hij
theorem drop_filter (k : Bs) : ∀ {l : List Pr}, Sorted l → ∀ n, (l.drop n).filter (less k) = (l.drop n).take ((l.filter (less k)).length - n)
  | [], _, n => by simp
  | p :: l, h, n => by
    obtain ⟨h1, h2⟩ := List.pairwise_cons.1 h
    by_cases hp : p.1 < k
    · have e : less k p = true := decide_eq_true hp
      have ih := drop_filter k h2
      cases n with
      | zero =>
        have := ih 0
        rw [List.drop_zero, List.filter_cons_of_pos e]
        simp only [List.length_cons, Nat.sub_zero, List.take_succ_cons]
        rw [List.drop_zero, Nat.sub_zero] at this
        rw [← this]
      | succ n =>
        rw [List.drop_succ_cons, ih n, List.filter_cons_of_pos e, List.length_cons]
        congr 1
        omega
    · have hn : ∀ q ∈ p :: l, less k q = false := fun q hq => by
        rcases List.mem_cons.1 hq with rfl | hq
        · exact decide_eq_false hp
        · exact decide_eq_false (fun h' => hp (blt_trans (h1 q hq) h'))
      rw [filter_none (l := p :: l) hn, filter_none (fun q hq => hn q (List.mem_of_mem_drop hq))]
      simp
theorem rank_of {l : List Pr} (h : Sorted l) {i : Nat} {p : Pr} (hi : l[i]? = some p) : (l.filter (less p.1)).length = i := by
  induction l generalizing i with
  | nil => simp at hi
  | cons q l ih =>
    obtain ⟨h1, h2⟩ := List.pairwise_cons.1 h
    cases i with
    | zero =>
      simp only [List.getElem?_cons_zero, Option.some.injEq] at hi
      subst hi
      rw [filter_none (fun r hr => by
        rcases List.mem_cons.1 hr with rfl | hr
        · exact decide_eq_false (blt_irrefl _)
        · exact decide_eq_false (blt_asymm (h1 r hr)))]
      rfl
    | succ i =>
      simp only [List.getElem?_cons_succ] at hi
      have : q.1 < p.1 := h1 p (List.mem_of_getElem? hi)
      rw [List.filter_cons_of_pos (show less p.1 q = true from decide_eq_true this), List.length_cons, ih h2 hi]
theorem getL_of {l : List Pr} (h : Sorted l) {i : Nat} {p : Pr} (hi : l[i]? = some p) : getL p.1 l = some p.2 := by
  induction l generalizing i with
  | nil => simp at hi
  | cons q l ih =>
    obtain ⟨h1, h2⟩ := List.pairwise_cons.1 h
    cases i with
    | zero =>
      simp only [List.getElem?_cons_zero, Option.some.injEq] at hi
      subst hi
      simp [getL]
    | succ i =>
      simp only [List.getElem?_cons_succ] at hi
      have : q.1 < p.1 := h1 p (List.mem_of_getElem? hi)
      have e : (q.1 == p.1) = false := beq_eq_false_iff_ne.2 (ne_of_blt this)
      have := ih h2 hi
      unfold getL at this ⊢
      rw [List.find?_cons, e]
      exact this
theorem Tr.rank_get {t : Tr} (h : Sorted t.toList) {i : Nat} (hi : i < t.count) : t.rank (t.get i).1 = i := by
  rw [Tr.rank_eq _ h, rank_of h (Tr.toList_get t i hi)]
theorem Tr.find_get {t : Tr} (h : Sorted t.toList) {i : Nat} (hi : i < t.count) : t.find (t.get i).1 = some (t.get i).2 := by
  rw [Tr.find_eq _ h, getL_of h (Tr.toList_get t i hi)]
theorem Tr.get_lt {t : Tr} (h : Sorted t.toList) {i j : Nat} (hj : j < t.count) (hij : i < j) : (t.get i).1 < (t.get j).1 :=
  h.lt (Tr.toList_get t i (by omega)) (Tr.toList_get t j hj) hij
/-- A Range's pairs, by ranks. -/
theorem range_ranks {t : Tr} (h : Sorted t.toList) (from_ to : Bs) (m : Nat) (hm : t.count ≤ m) :
    rng to m (t.toList.drop (t.rank from_)) = (t.toList.drop (t.rank from_)).take ((if to.length = 0 then t.count else t.rank to) - t.rank from_) := by
  have hl := t.toList_length
  rw [rng_eq to m (h.drop ..), List.take_of_length_le (Nat.le_trans (List.length_filter_le _ _) (by rw [List.length_drop]; omega))]
  by_cases c : to.length = 0
  · have e : to = [] := List.eq_nil_of_length_eq_zero c
    subst e
    rw [if_pos List.length_nil, filter_all (f := before []) (fun p _ => rfl), List.take_of_length_le (by rw [List.length_drop]; omega)]
  · rw [if_neg c, Tr.rank_eq to h, ← drop_filter to h]
    refine List.filter_congr (fun p _ => ?_)
    have : to.isEmpty = false := by cases to <;> simp at c ⊢
    simp [before, this]
end Go.Proofs.Ytmneommbdfapfaa
