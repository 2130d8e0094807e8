/- The plain law: find, first, remove on lists; a tree is nearly as deep everywhere, so it is flat. -/
import Derived.Test.YtmneommbdfapfaaTi
namespace Go.Proofs.Ytmneommbdfapfaa
open Vb

theorem mem_sides {l r : Tr} {nk nv : Bs} (h : Sorted (Tr.node l nk nv r).toList) : Sorted l.toList ∧ Sorted r.toList ∧ (∀ q ∈ l.toList, q.1 < nk) ∧ (∀ q ∈ r.toList, nk < q.1) := by
  obtain ⟨h1, h2, h3⟩ := List.pairwise_append.1 h
  obtain ⟨h4, h5⟩ := List.pairwise_cons.1 h2
  exact ⟨h1, h5, fun q hq => h3 q hq (nk, nv) (by simp), fun q hq => h4 q hq⟩
/-- A key's value in a list. -/
def getL (k : Bs) (l : List Pr) : Option Bs := (l.find? (fun p => p.1 == k)).map (·.2)
theorem getL_none {k : Bs} {l : List Pr} (h : ∀ q ∈ l, q.1 ≠ k) : getL k l = none := by
  unfold getL
  rw [List.find?_eq_none.2 (fun q hq => by simpa using h q hq)]
  rfl
theorem getL_append (k : Bs) (l r : List Pr) : getL k (l ++ r) = (getL k l).or (getL k r) := by
  unfold getL
  rw [List.find?_append]
  cases l.find? (fun p => p.1 == k) <;> simp
theorem ne_of_blt {a b : Bs} (h : a < b) : a ≠ b := fun e => blt_irrefl b (e ▸ h)
theorem Tr.find_eq (k : Bs) : ∀ {t : Tr}, Sorted t.toList → t.find k = getL k t.toList
  | .nil, _ => rfl
  | .node l nk nv r, h => by
    obtain ⟨h1, h5, h6, h7⟩ := mem_sides h
    have il := Tr.find_eq k h1
    have ir := Tr.find_eq k h5
    rw [Tr.find_node, Tr.toList, getL_append]
    by_cases c1 : k < nk
    · rw [if_pos ((cmp_lt k nk).2 c1), il]
      have : getL k ((nk, nv) :: r.toList) = none := getL_none (fun q hq => by
        rcases List.mem_cons.1 hq with rfl | hq
        · exact (ne_of_blt c1).symm
        · exact (ne_of_blt (blt_trans c1 (h7 q hq))).symm)
      rw [this]; simp
    · rw [if_neg (fun h' => c1 ((cmp_lt k nk).1 h'))]
      by_cases c2 : nk < k
      · rw [if_pos ((cmp_gt k nk).2 c2), ir]
        have e1 : getL k l.toList = none := getL_none (fun q hq => ne_of_blt (blt_trans (h6 q hq) c2))
        rw [e1]
        have e2 : (nk == k) = false := beq_eq_false_iff_ne.2 (ne_of_blt c2)
        simp [getL, e2]
      · rw [if_neg (fun h' => c2 ((cmp_gt k nk).1 h'))]
        have e : k = nk := by rcases blt_tri k nk with h | h | h <;> first | exact h | exact absurd h (by assumption)
        subst e
        rw [getL_none (fun q hq => ne_of_blt (h6 q hq))]
        simp [getL]
theorem Tr.first_toList : ∀ (t : Tr), 0 < t.count → t.toList = t.first.1 :: t.first.2.toList
  | .nil, h => by simp [Tr.count] at h
  | .node .nil k v r, _ => rfl
  | .node (.node ll lk lv lr) k v r, _ => by
    have ih := Tr.first_toList (.node ll lk lv lr) (by simp only [Tr.count]; omega)
    rw [Tr.toList, ih, Tr.first, Tr.bal_toList]
    rfl
/-- A list without a key. -/
def delL (k : Bs) (l : List Pr) : List Pr := l.filter (fun p => !(p.1 == k))
theorem delL_all {k : Bs} {l : List Pr} (h : ∀ q ∈ l, q.1 ≠ k) : delL k l = l := filter_all (fun q hq => by simpa using h q hq)
theorem delL_append (k : Bs) (l r : List Pr) : delL k (l ++ r) = delL k l ++ delL k r := List.filter_append ..
theorem Tr.remove_toList (k : Bs) : ∀ {t : Tr}, Sorted t.toList → (t.remove k).toList = delL k t.toList
  | .nil, _ => rfl
  | .node l nk nv r, h => by
    obtain ⟨h1, h5, h6, h7⟩ := mem_sides h
    have il := Tr.remove_toList k h1
    have ir := Tr.remove_toList k h5
    unfold Tr.remove
    rw [Tr.toList, delL_append]
    by_cases c1 : k < nk
    · rw [if_pos ((cmp_lt k nk).2 c1), Tr.bal_toList, il]
      rw [delL_all (l := (nk, nv) :: r.toList) (fun q hq => by
        rcases List.mem_cons.1 hq with rfl | hq
        · exact (ne_of_blt c1).symm
        · exact (ne_of_blt (blt_trans c1 (h7 q hq))).symm)]
    · rw [if_neg (fun h' => c1 ((cmp_lt k nk).1 h'))]
      by_cases c2 : nk < k
      · rw [if_pos ((cmp_gt k nk).2 c2), Tr.bal_toList, ir, delL_all (l := l.toList) (fun q hq => ne_of_blt (blt_trans (h6 q hq) c2))]
        have e2 : (nk == k) = false := beq_eq_false_iff_ne.2 (ne_of_blt c2)
        simp [delL, e2]
      · rw [if_neg (fun h' => c2 ((cmp_gt k nk).1 h'))]
        have e : k = nk := by rcases blt_tri k nk with h | h | h <;> first | exact h | exact absurd h (by assumption)
        subst e
        rw [delL_all (l := l.toList) (fun q hq => ne_of_blt (h6 q hq))]
        have e1 : delL k ((k, nv) :: r.toList) = r.toList := by
          unfold delL
          rw [List.filter_cons_of_neg (by simp)]
          exact delL_all (fun q hq => (ne_of_blt (h7 q hq)).symm)
        rw [e1]
        cases r with
        | nil => simp [Tr.toList]
        | node rl rk rv rr =>
          simp only
          rw [Tr.bal_toList, Tr.first_toList (.node rl rk rv rr) (by simp only [Tr.count]; omega)]
theorem delL_sorted (k : Bs) {l : List Pr} (h : Sorted l) : Sorted (delL k l) := h.filter _

/-! ### Flat -/
def Tr.Bal : Tr → Prop
  | .nil => True
  | .node l _ _ r => l.Bal ∧ r.Bal ∧ l.depth ≤ r.depth + 1 ∧ r.depth ≤ l.depth + 1
theorem Tr.bal_bal (l : Tr) (k v : Bs) (r : Tr) (hl : l.Bal) (hr : r.Bal) (h1 : l.depth ≤ r.depth + 2) (h2 : r.depth ≤ l.depth + 2) :
    (l.bal k v r).Bal ∧ max l.depth r.depth ≤ (l.bal k v r).depth ∧ (l.bal k v r).depth ≤ max l.depth r.depth + 1 ∧ (l.depth ≤ r.depth + 1 → r.depth ≤ l.depth + 1 → (l.bal k v r).depth = max l.depth r.depth + 1) := by
  unfold Tr.bal
  split
  · rename_i h
    cases l with
    | nil => simp [Tr.depth] at h
    | node ll lk lv lr =>
      obtain ⟨b1, b2, b3, b4⟩ := hl
      simp only [Tr.depth] at h h1 h2
      simp only
      split
      · rename_i h3
        refine ⟨⟨b1, ⟨b2, hr, by omega, by omega⟩, ?_, ?_⟩, ?_, ?_, ?_⟩ <;> simp only [Tr.depth] <;> omega
      · rename_i h3
        cases lr with
        | nil => simp [Tr.depth] at h3
        | node m1 mk mv m2 =>
          obtain ⟨c1, c2, c3, c4⟩ := b2
          simp only [Tr.depth] at h h1 h2 h3 b3 b4
          refine ⟨⟨⟨b1, c1, ?_, ?_⟩, ⟨c2, hr, ?_, ?_⟩, ?_, ?_⟩, ?_, ?_, ?_⟩ <;> (try simp only [Tr.depth]) <;> omega
  · split
    · rename_i hh h
      cases r with
      | nil => simp [Tr.depth] at h
      | node rl rk rv rr =>
        obtain ⟨b1, b2, b3, b4⟩ := hr
        simp only [Tr.depth] at h hh h1 h2
        simp only
        split
        · rename_i h3
          refine ⟨⟨⟨hl, b1, by omega, by omega⟩, b2, ?_, ?_⟩, ?_, ?_, ?_⟩ <;> simp only [Tr.depth] <;> omega
        · rename_i h3
          cases rl with
          | nil => simp [Tr.depth] at h3
          | node m1 mk mv m2 =>
            obtain ⟨c1, c2, c3, c4⟩ := b1
            simp only [Tr.depth] at h h1 h2 h3 b3 b4
            refine ⟨⟨⟨hl, c1, ?_, ?_⟩, ⟨c2, b2, ?_, ?_⟩, ?_, ?_⟩, ?_, ?_, ?_⟩ <;> (try simp only [Tr.depth]) <;> omega
    · refine ⟨⟨hl, hr, by omega, by omega⟩, ?_, ?_, ?_⟩ <;> simp only [Tr.depth] <;> omega
theorem Tr.put_bal (k x : Bs) : ∀ (t : Tr), t.Bal → (t.put k x).Bal ∧ t.depth ≤ (t.put k x).depth ∧ (t.put k x).depth ≤ t.depth + 1
  | .nil, _ => by simp [Tr.put, Tr.Bal, Tr.depth]
  | .node l nk nv r, h => by
    obtain ⟨b1, b2, b3, b4⟩ := h
    have il := Tr.put_bal k x l b1
    have ir := Tr.put_bal k x r b2
    unfold Tr.put
    split
    · have := Tr.bal_bal (Tr.put k x l) nk nv r il.1 b2 (by omega) (by omega)
      refine ⟨this.1, ?_, ?_⟩ <;> simp only [Tr.depth] <;> omega
    · split
      · have := Tr.bal_bal l nk nv (Tr.put k x r) b1 ir.1 (by omega) (by omega)
        refine ⟨this.1, ?_, ?_⟩ <;> simp only [Tr.depth] <;> omega
      · exact ⟨⟨b1, b2, b3, b4⟩, by simp [Tr.depth], by simp [Tr.depth]⟩
theorem Tr.first_bal : ∀ (t : Tr), t.Bal → t.first.2.Bal ∧ t.first.2.depth ≤ t.depth ∧ t.depth ≤ t.first.2.depth + 1
  | .nil, _ => by simp [Tr.first, Tr.Bal, Tr.depth]
  | .node .nil k v r, h => by
    obtain ⟨b1, b2, b3, b4⟩ := h
    simp only [Tr.depth] at b3 b4
    refine ⟨b2, ?_, ?_⟩ <;> simp only [Tr.depth, Tr.first] <;> omega
  | .node (.node ll lk lv lr) k v r, h => by
    obtain ⟨b1, b2, b3, b4⟩ := h
    have ih := Tr.first_bal (.node ll lk lv lr) b1
    have := Tr.bal_bal (Tr.first (.node ll lk lv lr)).2 k v r ih.1 b2 (by omega) (by omega)
    rw [Tr.first]
    simp only
    refine ⟨this.1, ?_, ?_⟩
    · rw [show (Tr.node (Tr.node ll lk lv lr) k v r).depth = 1 + max (Tr.node ll lk lv lr).depth r.depth from rfl]; omega
    · rw [show (Tr.node (Tr.node ll lk lv lr) k v r).depth = 1 + max (Tr.node ll lk lv lr).depth r.depth from rfl]; omega
theorem Tr.remove_bal (k : Bs) : ∀ (t : Tr), t.Bal → (t.remove k).Bal ∧ (t.remove k).depth ≤ t.depth ∧ t.depth ≤ (t.remove k).depth + 1
  | .nil, _ => by simp [Tr.remove, Tr.Bal, Tr.depth]
  | .node l nk nv r, h => by
    obtain ⟨b1, b2, b3, b4⟩ := h
    have il := Tr.remove_bal k l b1
    have ir := Tr.remove_bal k r b2
    unfold Tr.remove
    split
    · have := Tr.bal_bal (Tr.remove k l) nk nv r il.1 b2 (by omega) (by omega)
      refine ⟨this.1, ?_, ?_⟩ <;> simp only [Tr.depth] <;> omega
    · split
      · have := Tr.bal_bal l nk nv (Tr.remove k r) b1 ir.1 (by omega) (by omega)
        refine ⟨this.1, ?_, ?_⟩ <;> simp only [Tr.depth] <;> omega
      · cases r with
        | nil =>
          simp only [Tr.depth] at b3 b4
          refine ⟨b1, ?_, ?_⟩ <;> simp only [Tr.depth] <;> omega
        | node rl rk rv rr =>
          have hf := Tr.first_bal (.node rl rk rv rr) b2
          simp only
          generalize hR : (Tr.node rl rk rv rr) = R at *
          have := Tr.bal_bal l R.first.1.1 R.first.1.2 R.first.2 b1 hf.1 (by omega) (by omega)
          refine ⟨this.1, ?_, ?_⟩ <;> simp only [Tr.depth] <;> omega
theorem Tr.flat : ∀ (t : Tr), t.Bal → 2 ^ ((t.depth + 1) / 2) ≤ t.count + 1
  | .nil, _ => by simp [Tr.depth]
  | .node l k v r, h => by
    obtain ⟨b1, b2, b3, b4⟩ := h
    have il := Tr.flat l b1
    have ir := Tr.flat r b2
    simp only [Tr.depth, Tr.count]
    have e : (1 + max l.depth r.depth + 1) / 2 = (max l.depth r.depth) / 2 + 1 := by omega
    rw [e, Nat.pow_succ]
    have hl : 2 ^ (max l.depth r.depth / 2) ≤ 2 ^ ((l.depth + 1) / 2) := Nat.pow_le_pow_right (by omega) (by omega)
    have hr : 2 ^ (max l.depth r.depth / 2) ≤ 2 ^ ((r.depth + 1) / 2) := Nat.pow_le_pow_right (by omega) (by omega)
    omega
def bits : Nat → Nat
  | 0 => 0
  | n + 1 => 1 + bits ((n + 1) / 2)
decreasing_by omega
theorem bits_lt : ∀ n : Nat, n + 1 ≤ 2 ^ bits n
  | 0 => by simp [bits]
  | n + 1 => by
    have ih := bits_lt ((n + 1) / 2)
    rw [bits, Nat.add_comm 1, Nat.pow_succ]
    omega
decreasing_by omega
theorem Tr.depth_bits {t : Tr} (h : t.Bal) : t.depth ≤ 2 * bits t.count := by
  have h1 := Tr.flat t h
  have h2 := bits_lt t.count
  have h3 : (t.depth + 1) / 2 ≤ bits t.count := by
    rcases Nat.lt_or_ge (bits t.count) ((t.depth + 1) / 2) with h | h
    · have : 2 ^ (bits t.count + 1) ≤ 2 ^ ((t.depth + 1) / 2) := Nat.pow_le_pow_right (by omega) h
      rw [Nat.pow_succ] at this
      omega
    · exact h
  omega
theorem Tr.depth_zero (t : Tr) : t.depth = 0 ↔ t.count = 0 := by
  cases t <;> simp [Tr.depth, Tr.count]
end Go.Proofs.Ytmneommbdfapfaa
