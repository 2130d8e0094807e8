/- words.Split: one rune. -/
import Derived.Test.YtmlhjahbbcgpaaaDoorWc
namespace Go.Proofs.YtmlhjahbbcgpaaaDoor
open Vb Go.RowKit

def wcells (x : WV) : List Value := [.bool x.name, str x.text, .int .i64 x.line, .int .i64 x.col]
def wflat (l : List WV) : List Value := l.flatMap wcells
theorem wflat_snoc (l : List WV) (x : WV) : wflat (l ++ [x]) = wflat l ++ wcells x := by simp [wflat]
theorem wflat_length (l : List WV) : (wflat l).length = l.length * 4 := by
  induction l with
  | nil => rfl
  | cons p l ih => simp only [wflat, List.flatMap_cons, List.length_append, List.length_cons] at ih ⊢; simp only [wcells, List.length_cons, List.length_nil]; omega
theorem len_snoc {α : Type} (l : List α) (p : α) : (l ++ [p]).length = l.length + 1 := by simp
theorem own_shape {w : World} {base : Nat} {e : TypeId} {sz n : Nat} {v : Value} {cs : List Value} (h : w.ownsRow base e sz v n cs) : ∃ A c, v = .slice A n c := by
  rcases h.2 with ⟨e1, e2⟩ | ⟨g, cap, cur, rfl, _⟩
  · exact ⟨none, 0, by rw [e1, e2]⟩
  · exact ⟨_, _, rfl⟩
/-- One's own row, when there is something in it. -/
theorem own_row {w : World} {base : Nat} {e : TypeId} {sz n : Nat} {v : Value} {cs : List Value} (h : w.ownsRow base e sz v n cs) (hn : 0 < n) : ∃ g cap cur, v = .slice (some ⟨g, 0, none⟩) n cap ∧ base ≤ g ∧ Row w g e cur ∧ cur.take (n * sz) = cs ∧ n * sz ≤ cur.length := by
  rcases h.2 with ⟨e1, e2⟩ | ⟨g, cap, cur, rfl, hg, hh, hcap, hm, hs, ht⟩
  · omega
  · have h9 : n * sz ≤ cap * sz := Nat.mul_le_mul_right sz hcap
    exact ⟨g, cap, cur.toList, rfl, hg, by simpa [Row] using hh, ht, by simp; omega⟩
theorem take_splice {cs ds : List Value} {o m : Nat} (h : o + ds.length ≤ m) (hm : m ≤ cs.length) : (splice cs o ds).take m = splice (cs.take m) o ds := by
  apply List.ext_getElem?
  intro j
  rw [splice_get (by simp; omega)]
  by_cases hj : j < m
  · rw [List.getElem?_take_of_lt hj, splice_get (by omega)]
    split
    · rfl
    · rw [List.getElem?_take_of_lt hj]
  · rw [List.getElem?_take_eq_none (by omega), if_neg (by omega), List.getElem?_take_eq_none (by omega)]
theorem own_store {w w' : World} {base g cap : Nat} {e : TypeId} {sz n : Nat} {cs cur ds : List Value} {off : Nat} (h : w.ownsRow base e sz (.slice (some ⟨g, 0, none⟩) n cap) n cs) (hr : Row w g e cur) (hp : Put w w' g e (splice cur off ds)) (hoff : off + ds.length ≤ n * sz) : w'.ownsRow base e sz (.slice (some ⟨g, 0, none⟩) n cap) n (splice cs off ds) := by
  obtain ⟨h1, h2⟩ := h
  refine ⟨by rw [splice_length (by omega)]; exact h1, ?_⟩
  rcases h2 with ⟨e1, e2⟩ | ⟨g', cap', cur', hv, hg, hh, hcap, hm, hs, ht⟩
  · cases e1
  · simp only [Value.slice.injEq, Option.some.injEq, Addr.mk.injEq] at hv
    obtain ⟨⟨rfl, _⟩, _, rfl⟩ := hv
    have hr' : w.heap[g]? = some (.cells cur.toArray e (0, 0)) := hr
    rw [hh] at hr'
    simp only [Option.some.injEq, Obj.cells.injEq] at hr'
    obtain ⟨rfl, _⟩ := hr'
    have h9 : n * sz ≤ cap * sz := Nat.mul_le_mul_right sz hcap
    have hl : cur.length = cap * sz := by simpa using hs
    refine .inr ⟨g, cap, (splice cur off ds).toArray, rfl, hg, hp.row, hcap, hm, ?_, ?_⟩
    · simp only [List.size_toArray]; rw [splice_length (by omega)]; exact hl
    · show (splice cur off ds).take (n * sz) = _
      rw [take_splice hoff (by omega)]
      have : cur.take (n * sz) = cs := by simpa using ht
      rw [this]
theorem splice_mid (a b ds m : List Value) (h : m.length = ds.length) : splice (a ++ m ++ b) a.length ds = a ++ ds ++ b := by
  have h1 : (a ++ m ++ b).take a.length = a := by rw [List.append_assoc]; exact List.take_left' rfl
  have h2 : (a ++ m ++ b).drop (a.length + ds.length) = b := List.drop_left' (by simp [h])
  unfold splice
  rw [h1, h2]
theorem wflat_grow (c : Nat) (pre : List WV) (x : WV) : splice (wflat (pre ++ [x])) (pre.length * 4 + 1) [str (x.text ++ [UInt8.ofNat c])] = wflat (grow c (pre ++ [x])) := by
  rw [grow_snoc, wflat_snoc, wflat_snoc]
  have e : wflat pre ++ wcells x = (wflat pre ++ [.bool x.name]) ++ [str x.text] ++ [.int .i64 x.line, .int .i64 x.col] := by simp [wcells]
  have hl : (wflat pre ++ [Value.bool x.name]).length = pre.length * 4 + 1 := by simp [wflat_length]
  rw [e, ← hl, splice_mid _ _ [str (x.text ++ [UInt8.ofNat c])] [str x.text] rfl]
  simp [wcells]
end Go.Proofs.YtmlhjahbbcgpaaaDoor
