/- The plain law: a tree's pairs as a list in order; no program is named here. -/
import Derived.Test.YtmneommbdfapfaaTg
namespace Go.Proofs.Ytmneommbdfapfaa
open Vb

theorem blt_trans {a b c : Bs} (h1 : a < b) (h2 : b < c) : a < c := List.lt_trans h1 h2
theorem blt_irrefl (a : Bs) : ¬ a < a := List.lt_irrefl a
theorem blt_asymm {a b : Bs} (h : a < b) : ¬ b < a := fun h' => blt_irrefl a (blt_trans h h')
theorem blt_tri (a b : Bs) : a < b ∨ a = b ∨ b < a := by
  by_cases h1 : a < b
  · exact .inl h1
  · by_cases h2 : b < a
    · exact .inr (.inr h2)
    · exact .inr (.inl (List.le_antisymm (List.not_lt.1 h2) (List.not_lt.1 h1)))
abbrev Sorted (l : List Pr) : Prop := l.Pairwise (fun p q => p.1 < q.1)
def less (k : Bs) (p : Pr) : Bool := decide (p.1 < k)

theorem filter_all {l : List Pr} {f : Pr → Bool} (h : ∀ p ∈ l, f p = true) : l.filter f = l := List.filter_eq_self.2 h
theorem filter_none {l : List Pr} {f : Pr → Bool} (h : ∀ p ∈ l, f p = false) : l.filter f = [] := List.filter_eq_nil_iff.2 (fun p hp => by rw [h p hp]; decide)
theorem sorted_split (k : Bs) : ∀ {l : List Pr}, Sorted l → l.filter (less k) ++ l.filter (fun p => !less k p) = l
  | [], _ => rfl
  | p :: l, h => by
    obtain ⟨h1, h2⟩ := List.pairwise_cons.1 h
    have ih := sorted_split k h2
    by_cases hp : p.1 < k
    · have e : less k p = true := decide_eq_true hp
      rw [List.filter_cons_of_pos e, List.filter_cons_of_neg (by simp [e]), List.cons_append, ih]
    · have e : less k p = false := decide_eq_false hp
      have hl : ∀ q ∈ l, less k q = false := fun q hq => decide_eq_false (fun h' => hp (blt_trans (h1 q hq) h'))
      rw [List.filter_cons_of_neg (by simp [e]), List.filter_cons_of_pos (by simp [e]), filter_none hl, filter_all (fun q hq => by simp [hl q hq])]
      rfl
theorem Tr.rank_eq (k : Bs) : ∀ {t : Tr}, Sorted t.toList → t.rank k = (t.toList.filter (less k)).length
  | .nil, _ => rfl
  | .node l nk nv r, h => by
    obtain ⟨h1, h2, h3⟩ := List.pairwise_append.1 h
    obtain ⟨h4, h5⟩ := List.pairwise_cons.1 h2
    have h6 : ∀ q ∈ l.toList, q.1 < nk := fun q hq => h3 q hq (nk, nv) (by simp)
    have h7 : ∀ q ∈ r.toList, nk < q.1 := fun q hq => h4 q hq
    have il := Tr.rank_eq k h1
    have ir := Tr.rank_eq k h5
    rw [Tr.rank_node, Tr.toList, List.filter_append, List.length_append]
    by_cases c : nk < k
    · rw [if_pos ((cmp_lt nk k).2 c), filter_all (f := less k) (fun p hp => decide_eq_true (blt_trans (h6 p hp) c)), List.filter_cons_of_pos (by simp [less, c]), List.length_cons, Tr.toList_length, ir]
      omega
    · rw [if_neg (fun h' => c ((cmp_lt nk k).1 h')), List.filter_cons_of_neg (by simp [less, c]), filter_none (f := less k) (fun p hp => decide_eq_false (fun h' => c (blt_trans (h7 p hp) h'))), il]
      simp
theorem Tr.drop_rank (k : Bs) {t : Tr} (h : Sorted t.toList) : t.toList.drop (t.rank k) = t.toList.filter (fun p => !less k p) := by
  rw [Tr.rank_eq k h]
  conv => lhs; arg 2; rw [← sorted_split k h]
  rw [List.drop_left]

/-- Not behind a Range's end. -/
def before (to : Bs) (p : Pr) : Bool := to.isEmpty || less to p
theorem rng_eq (to : Bs) : ∀ (m : Nat) {l : List Pr}, Sorted l → rng to m l = (l.filter (before to)).take m
  | 0, l, _ => by simp [rng]
  | m + 1, [], _ => rfl
  | m + 1, p :: l, h => by
    obtain ⟨h1, h2⟩ := List.pairwise_cons.1 h
    have ih := rng_eq to m h2
    unfold rng
    by_cases c : 0 < to.length ∧ 0 ≤ Lib.compareBytes p.1 to
    · rw [if_pos c]
      have hne : to.isEmpty = false := by cases to <;> simp at c ⊢
      have hn : ¬ p.1 < to := fun h' => by have := (cmp_lt p.1 to).2 h'; omega
      rw [filter_none]
      · rfl
      · intro q hq
        rcases List.mem_cons.1 hq with rfl | hq
        · simp [before, hne, less, hn]
        · simp only [before, hne, less, Bool.false_or]
          exact decide_eq_false (fun h' => hn (blt_trans (h1 q hq) h'))
    · rw [if_neg c]
      have hb : before to p = true := by
        cases to with
        | nil => rfl
        | cons a ys =>
          have : Lib.compareBytes p.1 (a :: ys) < 0 := by simp at c; omega
          simp [before, less, (cmp_lt _ _).1 this]
      rw [List.filter_cons_of_pos hb, List.take_succ_cons, ih]

/-! ### Put -/
def insL (k x : Bs) : List Pr → List Pr
  | [] => [(k, x)]
  | p :: l => if k < p.1 then (k, x) :: p :: l else if p.1 < k then p :: insL k x l else (k, x) :: l
theorem insL_left (k x : Bs) (p : Pr) (r : List Pr) (hk : k < p.1) : ∀ l : List Pr, insL k x (l ++ p :: r) = insL k x l ++ p :: r
  | [] => by simp [insL, hk]
  | q :: l => by
    have ih := insL_left k x p r hk l
    simp only [List.cons_append, insL]
    split
    · rfl
    · split
      · rw [ih]; rfl
      · rfl
theorem insL_right (k x : Bs) (s : List Pr) : ∀ l : List Pr, (∀ q ∈ l, q.1 < k) → insL k x (l ++ s) = l ++ insL k x s
  | [], _ => rfl
  | q :: l, h => by
    have hq := h q (by simp)
    simp only [List.cons_append, insL]
    rw [if_neg (blt_asymm hq), if_pos hq, insL_right k x s l (fun q hq => h q (by simp [hq]))]
theorem mem_insL (k x : Bs) : ∀ (l : List Pr) (q : Pr), q ∈ insL k x l → q = (k, x) ∨ q ∈ l
  | [], q, h => by simpa [insL] using h
  | p :: l, q, h => by
    unfold insL at h
    split at h
    · simpa using h
    · split at h
      · rcases List.mem_cons.1 h with rfl | h
        · exact .inr (by simp)
        · exact (mem_insL k x l q h).imp id (fun h => by simp [h])
      · rcases List.mem_cons.1 h with rfl | h
        · exact .inl rfl
        · exact .inr (by simp [h])
theorem insL_sorted (k x : Bs) : ∀ {l : List Pr}, Sorted l → Sorted (insL k x l)
  | [], _ => by simp [insL, Sorted]
  | p :: l, h => by
    obtain ⟨h1, h2⟩ := List.pairwise_cons.1 h
    unfold insL
    split
    · rename_i hk
      exact List.pairwise_cons.2 ⟨fun q hq => by
        rcases List.mem_cons.1 hq with rfl | hq
        · exact hk
        · exact blt_trans hk (h1 q hq), h⟩
    · split
      · rename_i h3 h4
        exact List.pairwise_cons.2 ⟨fun q hq => by
          rcases mem_insL k x l q hq with rfl | hq
          · exact h4
          · exact h1 q hq, insL_sorted k x h2⟩
      · rename_i h3 h4
        have e : k = p.1 := by rcases blt_tri k p.1 with h | h | h <;> first | exact h | exact absurd h (by assumption)
        exact List.pairwise_cons.2 ⟨fun q hq => by rw [e]; exact h1 q hq, h2⟩
theorem Tr.bal_toList (l : Tr) (k v : Bs) (r : Tr) : (l.bal k v r).toList = l.toList ++ (k, v) :: r.toList := by
  unfold Tr.bal
  split
  · rename_i h
    cases l with
    | nil => rfl
    | node ll lk lv lr =>
      simp only
      split
      · simp [Tr.toList]
      · rename_i h2
        cases lr with
        | nil => simp [Tr.depth] at h2
        | node m1 mk mv m2 => simp [Tr.toList]
  · split
    · rename_i h
      cases r with
      | nil => rfl
      | node rl rk rv rr =>
        simp only
        split
        · simp [Tr.toList]
        · rename_i h2
          cases rl with
          | nil => simp [Tr.depth] at h2
          | node m1 mk mv m2 => simp [Tr.toList]
    · simp only [Tr.toList]
theorem Tr.put_toList (k x : Bs) : ∀ {t : Tr}, Sorted t.toList → (t.put k x).toList = insL k x t.toList
  | .nil, _ => rfl
  | .node l nk nv r, h => by
    obtain ⟨h1, h2, h3⟩ := List.pairwise_append.1 h
    obtain ⟨h4, h5⟩ := List.pairwise_cons.1 h2
    have h6 : ∀ q ∈ l.toList, q.1 < nk := fun q hq => h3 q hq (nk, nv) (by simp)
    have h7 : ∀ q ∈ r.toList, nk < q.1 := fun q hq => h4 q hq
    have il := Tr.put_toList k x h1
    have ir := Tr.put_toList k x h5
    unfold Tr.put
    simp only [Tr.toList]
    by_cases c1 : k < nk
    · rw [if_pos ((cmp_lt k nk).2 c1), Tr.bal_toList, il, insL_left k x (nk, nv) _ c1]
    · rw [if_neg (fun h' => c1 ((cmp_lt k nk).1 h'))]
      by_cases c2 : nk < k
      · rw [if_pos ((cmp_gt k nk).2 c2), Tr.bal_toList, ir, insL_right k x _ _ (fun q hq => blt_trans (h6 q hq) c2)]
        simp [insL, c1, c2]
      · rw [if_neg (fun h' => c2 ((cmp_gt k nk).1 h'))]
        have e : k = nk := by rcases blt_tri k nk with h | h | h <;> first | exact h | exact absurd h (by assumption)
        subst e
        rw [insL_right k x _ _ h6]
        simp [insL, Tr.toList, c1]
end Go.Proofs.Ytmneommbdfapfaa
