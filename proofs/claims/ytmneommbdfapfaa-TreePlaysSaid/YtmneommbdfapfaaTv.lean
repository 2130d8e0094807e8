/- The plain law of TreeOrder: what two trees hold, by looking keys up. -/
import Derived.Test.YtmneommbdfapfaaTq
namespace Go.Proofs.Ytmneommbdfapfaa
open Vb

theorem getL_mem {l : List Pr} (h : Sorted l) {k v : Bs} : getL k l = some v ↔ (k, v) ∈ l := by
  constructor
  · intro hk
    unfold getL at hk
    obtain ⟨p, hp, rfl⟩ := Option.map_eq_some_iff.1 hk
    have h1 := List.find?_some hp
    have h2 := List.mem_of_find?_eq_some hp
    have : p.1 = k := by simpa using h1
    subst this
    exact h2
  · intro hm
    obtain ⟨i, hi⟩ := List.mem_iff_getElem?.1 hm
    exact getL_of h hi
theorem getL_insL (k x q : Bs) : ∀ {l : List Pr}, Sorted l → getL q (insL k x l) = if q = k then some x else getL q l
  | [], _ => by
    by_cases e : q = k
    · subst e; simp [insL, getL]
    · have : (k == q) = false := beq_eq_false_iff_ne.2 (fun h => e h.symm)
      simp [insL, getL, e, this]
  | p :: l, h => by
    obtain ⟨h1, h2⟩ := List.pairwise_cons.1 h
    have ih := getL_insL k x q h2
    unfold insL
    split
    · by_cases e : q = k
      · subst e; simp [getL]
      · have : (k == q) = false := beq_eq_false_iff_ne.2 (fun h => e h.symm)
        simp [getL, e, this]
    · split
      · rename_i h3 h4
        by_cases e2 : p.1 = q
        · subst e2
          have : p.1 ≠ k := ne_of_blt h4
          simp [getL, this]
        · have e3 : (p.1 == q) = false := beq_eq_false_iff_ne.2 e2
          unfold getL at ih ⊢
          rw [List.find?_cons, List.find?_cons, e3]
          exact ih
      · rename_i h3 h4
        have e : k = p.1 := by rcases blt_tri k p.1 with h | h | h <;> first | exact h | exact absurd h (by assumption)
        subst e
        by_cases e : q = p.1
        · subst e; simp [getL]
        · have : (p.1 == q) = false := beq_eq_false_iff_ne.2 (fun h => e h.symm)
          simp [getL, e, this]
theorem getL_delL (k q : Bs) : ∀ (l : List Pr), getL q (delL k l) = if q = k then none else getL q l
  | [] => by simp [delL, getL]
  | p :: l => by
    have ih := getL_delL k q l
    unfold delL at ih ⊢
    by_cases e : p.1 = k
    · subst e
      rw [List.filter_cons_of_neg (by simp), ih]
      by_cases e2 : q = p.1
      · simp [e2]
      · have : (p.1 == q) = false := beq_eq_false_iff_ne.2 (fun h => e2 h.symm)
        simp [getL, e2, this]
    · have e' : (p.1 == k) = false := beq_eq_false_iff_ne.2 e
      rw [List.filter_cons_of_pos (by simp [e'])]
      by_cases e2 : p.1 = q
      · subst e2
        simp [getL, e]
      · have e3 : (p.1 == q) = false := beq_eq_false_iff_ne.2 e2
        unfold getL at ih ⊢
        rw [List.find?_cons, List.find?_cons, e3]
        exact ih
theorem sorted_ext : ∀ {l l' : List Pr}, Sorted l → Sorted l' → (∀ k, getL k l = getL k l') → l = l'
  | [], [], _, _, _ => rfl
  | [], p :: l', _, _, h => by
    have := h p.1
    simp [getL] at this
  | p :: l, [], _, _, h => by
    have := h p.1
    simp [getL] at this
  | p :: l, p' :: l', h, h', hk => by
    obtain ⟨h1, h2⟩ := List.pairwise_cons.1 h
    obtain ⟨h1', h2'⟩ := List.pairwise_cons.1 h'
    have m1 : p ∈ p' :: l' := by
      have := (getL_mem (k := p.1) (v := p.2) h).2 (by simp)
      rw [hk] at this
      exact (getL_mem h').1 this
    have m2 : p' ∈ p :: l := by
      have := (getL_mem (k := p'.1) (v := p'.2) h').2 (by simp)
      rw [← hk] at this
      exact (getL_mem h).1 this
    have e : p = p' := by
      rcases List.mem_cons.1 m1 with e | m1
      · exact e
      · rcases List.mem_cons.1 m2 with e | m2
        · exact e.symm
        · exact absurd (h1 _ m2) (blt_asymm (h1' _ m1))
    subst e
    congr 1
    refine sorted_ext h2 h2' (fun k => ?_)
    have := hk k
    by_cases e : p.1 = k
    · subst e
      rw [getL_none (fun q hq => (ne_of_blt (h1 q hq)).symm), getL_none (fun q hq => (ne_of_blt (h1' q hq)).symm)]
    · have e3 : (p.1 == k) = false := beq_eq_false_iff_ne.2 e
      unfold getL at this ⊢
      rw [List.find?_cons, List.find?_cons, e3] at this
      exact this
theorem Tr.get_put {t : Tr} (h : Sorted t.toList) (k x q : Bs) : getL q (t.put k x).toList = if q = k then some x else getL q t.toList := by
  rw [Tr.put_toList k x h, getL_insL k x q h]
theorem Tr.get_remove {t : Tr} (h : Sorted t.toList) (k q : Bs) : getL q (t.remove k).toList = if q = k then none else getL q t.toList := by
  rw [Tr.remove_toList k h, getL_delL]

/-! ### TreeOrder's own -/
def ff : Bs := [255, 255, 45]
theorem ff_ge (k : Bs) : ¬ (ff ++ k) < ff := by
  have : ∀ (a b : Bs), ¬ (a ++ b) < a := by
    intro a
    induction a with
    | nil => intro b h; simp at h
    | cons x a ih =>
      intro b h
      rw [List.cons_append, List.cons_lt_cons_iff] at h
      rcases h with h | ⟨_, h⟩
      · exact absurd h (UInt8.lt_irrefl x)
      · exact ih b h
  exact this ff k
/-- The i-th key, cut. -/
def cutk (x : Bs) : Bs := x.take (min x.length 50)
def kf (keys : List Bs) (i : Nat) : Bs := cutk ((keys[i]?).getD [])
theorem kf_of {keys : List Bs} {i : Nat} {x : Bs} (h : keys[i]? = some x) : kf keys i = cutk x := by simp [kf, h]
structure HasA (kf : Nat → Bs) (i : Nat) (l : List Pr) : Prop where
  mk :: (out : ∀ q v, getL q l = some v ↔ (v = q ∧ ∃ j, j < i ∧ kf j = q))
def HasB (kf : Nat → Bs) (n : Nat) (l : List Pr) : Prop := ∀ q, (getL q l).isSome = true → (∃ j, j < n ∧ kf j = q) ∨ ¬ q < ff
def HasC (kf : Nat → Bs) (n u i : Nat) (l : List Pr) : Prop := ∀ j, j < i → getL (kf ((j + u) % n)) l = some (kf ((j + u) % n))
theorem HasA.zero (kf : Nat → Bs) : HasA kf 0 Tr.nil.toList := ⟨fun q v => by simp [Tr.toList, getL]⟩
theorem HasA.step {kf : Nat → Bs} {i : Nat} {t : Tr} (hS : Sorted t.toList) (h : HasA kf i t.toList) : HasA kf (i + 1) (t.put (kf i) (kf i)).toList := ⟨fun q v => by
  rw [Tr.get_put hS]
  by_cases e : q = kf i
  · subst e
    rw [if_pos rfl]
    constructor
    · intro h; cases h; exact ⟨rfl, i, by omega, rfl⟩
    · rintro ⟨rfl, _⟩; rfl
  · rw [if_neg e, h.out]
    constructor
    · rintro ⟨h1, j, h2, h3⟩; exact ⟨h1, j, by omega, h3⟩
    · rintro ⟨h1, j, h2, h3⟩
      refine ⟨h1, j, ?_, h3⟩
      rcases Nat.lt_or_ge j i with h | h
      · exact h
      · have : j = i := by omega
        subst this
        exact absurd h3.symm e⟩
theorem HasB.zero (kf : Nat → Bs) (n : Nat) : HasB kf n Tr.nil.toList := fun q h => by simp [Tr.toList, getL] at h
theorem HasB.put {kf : Nat → Bs} {n : Nat} {t : Tr} (hS : Sorted t.toList) (h : HasB kf n t.toList) (k x : Bs) (hk : (∃ j, j < n ∧ kf j = k) ∨ ¬ k < ff) : HasB kf n (t.put k x).toList := fun q hq => by
  rw [Tr.get_put hS] at hq
  by_cases e : q = k
  · subst e; exact hk
  · rw [if_neg e] at hq; exact h q hq
theorem HasC.step {kf : Nat → Bs} {n u i : Nat} {t : Tr} (hS : Sorted t.toList) (h : HasC kf n u i t.toList) : HasC kf n u (i + 1) (t.put (kf ((i + u) % n)) (kf ((i + u) % n))).toList := fun j hj => by
  rw [Tr.get_put hS]
  by_cases e : kf ((j + u) % n) = kf ((i + u) % n)
  · rw [if_pos e, e]
  · rw [if_neg e]
    refine h j ?_
    rcases Nat.lt_or_ge j i with h | h
    · exact h
    · have : j = i := by omega
      subst this
      exact absurd rfl e
theorem HasC.all {kf : Nat → Bs} {n u : Nat} {l : List Pr} (h : HasC kf n u n l) (j : Nat) (hj : j < n) : getL (kf j) l = some (kf j) := by
  have h1 : u % n < n := Nat.mod_lt _ (by omega)
  have := h ((j + (n - u % n)) % n) (Nat.mod_lt _ (by omega))
  have e : ((j + (n - u % n)) % n + u) % n = j := by
    rw [Nat.mod_add_mod]
    have h2 := Nat.div_add_mod u n
    have : j + (n - u % n) + u = j + n * (1 + u / n) := by
      rw [Nat.mul_add, Nat.mul_one]; omega
    rw [this, Nat.add_mul_mod_self_left, Nat.mod_eq_of_lt hj]
  rw [e] at this
  exact this
/-- While what is too much is deleted: j pairs of l are looked at. -/
structure HasD (kf : Nat → Bs) (n : Nat) (l : List Pr) (j : Nat) (b : List Pr) : Prop where
  all : ∀ i, i < n → getL (kf i) b = some (kf i)
  only : ∀ q, (getL q b).isSome = true → (∃ i, i < n ∧ kf i = q) ∨ ∃ i p, j ≤ i ∧ l[i]? = some p ∧ p.1 = q
  left : ∀ i p, j ≤ i → l[i]? = some p → (getL p.1 b).isSome = true
theorem HasD.begin {kf : Nat → Bs} {n u : Nat} {t : Tr} (hS : Sorted t.toList) (hB : HasB kf n t.toList) (hC : HasC kf n u n t.toList) : HasD kf n (t.toList.filter (fun p => !less ff p)) 0 t.toList := by
  refine ⟨hC.all, fun q hq => ?_, fun i p _ hp => ?_⟩
  · rcases hB q hq with h | h
    · exact .inl h
    · obtain ⟨v, hv⟩ := Option.isSome_iff_exists.1 hq
      have hm := (getL_mem hS).1 hv
      have hm' : (q, v) ∈ t.toList.filter (fun p => !less ff p) := List.mem_filter.2 ⟨hm, by simp [less, h]⟩
      obtain ⟨i, hi⟩ := List.mem_iff_getElem?.1 hm'
      exact .inr ⟨i, _, Nat.zero_le _, hi, rfl⟩
  · have hm := (List.mem_filter.1 (List.mem_of_getElem? hp)).1
    rw [(getL_mem (k := p.1) (v := p.2) hS).2 hm]; rfl
theorem HasD.skip {kf : Nat → Bs} {n j : Nat} {l b : List Pr} (h : HasD kf n l j b) {p : Pr} (hp : l[j]? = some p) (hk : ∃ i, i < n ∧ kf i = p.1) : HasD kf n l (j + 1) b := by
  refine ⟨h.all, fun q hq => ?_, fun i p hi hp => h.left i p (by omega) hp⟩
  rcases h.only q hq with h' | ⟨i, p', h1, h2, h3⟩
  · exact .inl h'
  · by_cases e : i = j
    · subst e
      rw [hp] at h2
      cases h2
      subst h3
      exact .inl hk
    · exact .inr ⟨i, p', by omega, h2, h3⟩
theorem HasD.del {kf : Nat → Bs} {n j : Nat} {l : List Pr} {t : Tr} (hS : Sorted t.toList) (hl : Sorted l) (h : HasD kf n l j t.toList) {p : Pr} (hp : l[j]? = some p) (hk : ¬ ∃ i, i < n ∧ kf i = p.1) : HasD kf n l (j + 1) (t.remove p.1).toList := by
  refine ⟨fun i hi => ?_, fun q hq => ?_, fun i p' hi hp' => ?_⟩
  · rw [Tr.get_remove hS, if_neg (fun e => hk ⟨i, hi, e⟩)]
    exact h.all i hi
  · rw [Tr.get_remove hS] at hq
    by_cases e : q = p.1
    · rw [if_pos e] at hq; cases hq
    · rw [if_neg e] at hq
      rcases h.only q hq with h' | ⟨i, p', h1, h2, h3⟩
      · exact .inl h'
      · refine .inr ⟨i, p', ?_, h2, h3⟩
        rcases Nat.lt_or_ge j i with h | h
        · exact h
        · have : i = j := by omega
          subst this
          rw [hp] at h2
          cases h2
          exact absurd h3.symm e
  · rw [Tr.get_remove hS, if_neg (fun e => by
      have := hl.lt hp hp' (by omega)
      rw [e] at this
      exact blt_irrefl _ this)]
    exact h.left i p' (by omega) hp'
theorem order_same_lists {kf : Nat → Bs} {n : Nat} {l : List Pr} {ta tb : Tr} (ha : Sorted ta.toList) (hb : Sorted tb.toList) (hA : HasA kf n ta.toList) (hD : HasD kf n l l.length tb.toList) : ta.toList = tb.toList := by
  refine sorted_ext ha hb (fun k => ?_)
  by_cases hk : ∃ i, i < n ∧ kf i = k
  · obtain ⟨i, hi, rfl⟩ := hk
    rw [hD.all i hi, (hA.out _ _).2 ⟨rfl, i, hi, rfl⟩]
  · have e1 : getL k ta.toList = none := by
      cases h : getL k ta.toList with
      | none => rfl
      | some v => exact absurd ((hA.out _ _).1 h).2 hk
    have e2 : getL k tb.toList = none := by
      cases h : getL k tb.toList with
      | none => rfl
      | some v =>
        rcases hD.only k (by rw [h]; rfl) with h' | ⟨i, p, h1, h2, _⟩
        · exact absurd h' hk
        · have := (List.getElem?_eq_some_iff.1 h2).1
          omega
    rw [e1, e2]
end Go.Proofs.Ytmneommbdfapfaa
