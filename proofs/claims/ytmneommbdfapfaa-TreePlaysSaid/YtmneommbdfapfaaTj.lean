/- The plain law of TreeHalves. -/
import Derived.Test.YtmneommbdfapfaaTi
namespace Go.Proofs.Ytmneommbdfapfaa
open Vb

theorem bge_trans {a b c : Bs} (h1 : ¬ b < a) (h2 : b < c) : a < c := by
  rcases blt_tri a b with h | h | h
  · exact blt_trans h h2
  · rw [h]; exact h2
  · exact absurd h h1
/-- A range cut at a key. -/
theorem halves {l : List Pr} (h : Sorted l) {lo mid hi : Bs} (h1 : ¬ mid < lo) (h2 : hi.isEmpty = true ∨ ¬ hi < mid) (h3 : mid.isEmpty = false) :
    (l.filter (fun p => !less lo p)).filter (before hi) = (l.filter (fun p => !less lo p)).filter (before mid) ++ (l.filter (fun p => !less mid p)).filter (before hi) := by
  have hs : Sorted ((l.filter (fun p => !less lo p)).filter (before hi)) := (h.filter _).filter _
  rw [← sorted_split mid hs]
  congr 1
  · rw [List.filter_filter, List.filter_filter, List.filter_filter]
    refine List.filter_congr (fun p _ => ?_)
    simp only [before, h3, Bool.false_or]
    by_cases c : p.1 < mid
    · have hb : (hi.isEmpty || less hi p) = true := by
        rcases h2 with h2 | h2
        · simp [h2]
        · have : p.1 < hi := by
            rcases blt_tri mid hi with h | h | h
            · exact blt_trans c h
            · rw [← h]; exact c
            · exact absurd h h2
          simp [less, this]
      have e : less mid p = true := decide_eq_true c
      simp [e, hb]
    · have e : less mid p = false := decide_eq_false c
      simp [e]
  · rw [List.filter_filter, List.filter_filter, List.filter_filter]
    refine List.filter_congr (fun p _ => ?_)
    by_cases c : p.1 < mid
    · have e : less mid p = true := decide_eq_true c
      simp [e]
    · have e : less mid p = false := decide_eq_false c
      have e2 : less lo p = false := decide_eq_false (fun h' => c (by
        rcases blt_tri mid lo with h | h | h
        · exact absurd h h1
        · rw [h]; exact h'
        · exact blt_trans h' h))
      simp [e, e2, Bool.and_comm]
end Go.Proofs.Ytmneommbdfapfaa
