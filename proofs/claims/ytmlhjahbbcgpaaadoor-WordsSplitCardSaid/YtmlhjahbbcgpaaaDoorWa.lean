/- The plain law of words: runes of a text, places; Split as steps. -/
import Derived.Test.YtmlhjahbbcgpaaaDoorVj
namespace Go.Proofs.YtmlhjahbbcgpaaaDoor
open Vb

abbrev Bs := List UInt8
/-- Is this a rune, and no byte that is none? -/
def okd (d : Nat × Nat) : Bool := !(d.1 == 65533 && d.2 == 1)
theorem dec_pos {s : Bs} (h : s ≠ []) : 1 ≤ (dec s).2 := by
  have := Lib.decode_width_pos ⟨s.toArray⟩ 0 (by rw [str_size]; exact List.length_pos_iff.2 h)
  exact this
theorem dec_le {s : Bs} (h : s ≠ []) : (dec s).2 ≤ s.length := Lib.decodeL_le s h
/-- The runes of a text up to what is none; is all of it runes? -/
def runes (s : Bs) : List Nat × Bool :=
  if h : s = [] then ([], true)
  else if okd (dec s) then ((dec s).1 :: (runes (s.drop (dec s).2)).1, (runes (s.drop (dec s).2)).2)
  else ([], false)
termination_by s.length
decreasing_by all_goals (rw [List.length_drop]; have := dec_pos h; have := List.length_pos_iff.2 h; omega)
theorem runes_nil : runes [] = ([], true) := by rw [runes]; simp
theorem runes_ok {s : Bs} (h : s ≠ []) (ho : okd (dec s) = true) : runes s = ((dec s).1 :: (runes (s.drop (dec s).2)).1, (runes (s.drop (dec s).2)).2) := by
  rw [runes, dif_neg h, if_pos ho]
theorem runes_bad {s : Bs} (h : s ≠ []) (ho : okd (dec s) = false) : runes s = ([], false) := by
  rw [runes, dif_neg h, if_neg (by rw [ho]; decide)]
theorem drop_ne {s : Bs} {i : Nat} (h : i < s.length) : s.drop i ≠ [] := fun e => by
  have := congrArg List.length e
  rw [List.length_drop] at this
  simp at this; omega
/-- The place behind a rune. -/
def stepP (p : Nat × Nat) (c : Nat) : Nat × Nat := if c = 10 then (p.1 + 1, 1) else (p.1, p.2 + 1)
def placeOf (p : Nat × Nat) (l : List Nat) : Nat × Nat := l.foldl stepP p

/-! ### Split -/
structure WV where
  name : Bool
  text : Bs
  line : Nat
  col : Nat
deriving DecidableEq
def sgn (c : Nat) : Bs := if c = 40 ∨ c = 41 ∨ c = 44 ∨ c = 61 ∨ c = 59 then [UInt8.ofNat c] else if c = 8592 then [61] else if c = 8743 then [44] else []
def blank (c : Nat) : Bool := c == 9 || c == 10 || c == 13 || c == 32 || c == 160 || c == 12288
def isL (c : Nat) : Bool := 97 ≤ c && c ≤ 122
structure MS where
  out : List WV
  bad : Nat × Nat
  at_ : Nat × Nat
  remark : Bool
  open_ : Bool
def MS.init : MS := ⟨[], (0, 0), (1, 1), false, false⟩
/-- The last word with a letter more. -/
def grow (c : Nat) : List WV → List WV
  | [] => []
  | [x] => [{ x with text := x.text ++ [UInt8.ofNat c] }]
  | x :: y :: r => x :: grow c (y :: r)
def MS.lastOf (s : MS) : WV := s.out.getLast?.getD ⟨false, [], 0, 0⟩
def MS.step (s : MS) (c : Nat) : MS :=
  if s.remark then { s with remark := c != 10, open_ := false, at_ := stepP s.at_ c }
  else if isL c then
    if s.open_ then { s with out := grow c s.out, bad := if 16 < s.lastOf.text.length + 1 ∧ s.bad.1 = 0 then (s.lastOf.line, s.lastOf.col) else s.bad, open_ := true, at_ := stepP s.at_ c }
    else { s with out := s.out ++ [⟨true, [UInt8.ofNat c], s.at_.1, s.at_.2⟩], open_ := true, at_ := stepP s.at_ c }
  else if c = 35 then { s with remark := true, open_ := false, at_ := stepP s.at_ c }
  else if sgn c ≠ [] then { s with out := s.out ++ [⟨false, sgn c, s.at_.1, s.at_.2⟩], open_ := false, at_ := stepP s.at_ c }
  else if blank c = false ∧ s.bad.1 = 0 then { s with bad := s.at_, open_ := false, at_ := stepP s.at_ c }
  else { s with open_ := false, at_ := stepP s.at_ c }
def mach (s : MS) (l : List Nat) : MS := l.foldl MS.step s
/-- What Split answers: words, a place, an error. -/
def splitP (t : Bs) : List WV × Nat × Nat × Nat :=
  if 1024 < t.length then ([], 0, 0, 3)
  else
    let m := mach MS.init (runes t).1
    if (runes t).2 = false then ([], m.at_.1, m.at_.2, 7)
    else if 0 < m.bad.1 then ([], m.bad.1, m.bad.2, 80)
    else (m.out, 0, 0, 0)
theorem step_at (s : MS) (c : Nat) : (s.step c).at_ = stepP s.at_ c := by
  unfold MS.step
  repeat' split
  all_goals rfl
theorem mach_at (l : List Nat) : ∀ s : MS, (mach s l).at_ = placeOf s.at_ l := by
  induction l with
  | nil => intro s; rfl
  | cons c l ih => intro s; rw [mach, placeOf, List.foldl_cons, List.foldl_cons, ← step_at]; exact ih _
theorem grow_length (c : Nat) : ∀ l : List WV, (grow c l).length = l.length
  | [] => rfl
  | [x] => rfl
  | x :: y :: r => by rw [grow, List.length_cons, grow_length c (y :: r)]; rfl
theorem grow_snoc (c : Nat) (x : WV) : ∀ l : List WV, grow c (l ++ [x]) = l ++ [{ x with text := x.text ++ [UInt8.ofNat c] }]
  | [] => rfl
  | [y] => rfl
  | y :: z :: r => by
    have := grow_snoc c x (z :: r)
    rw [List.cons_append, List.cons_append, grow, ← List.cons_append, this]
    rfl
end Go.Proofs.YtmlhjahbbcgpaaaDoor
