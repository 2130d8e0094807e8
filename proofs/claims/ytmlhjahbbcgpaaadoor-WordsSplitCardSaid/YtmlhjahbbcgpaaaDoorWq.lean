/- WordsJoined: what is joined, and what Split makes of it. -/
import Derived.Test.YtmlhjahbbcgpaaaDoorWm
namespace Go.Proofs.YtmlhjahbbcgpaaaDoor
open Vb

def jlet (b : UInt8) : UInt8 := UInt8.ofNat (97 + b.toNat % 26)
theorem jlet_nat (b : UInt8) : (jlet b).toNat = 97 + b.toNat % 26 := by
  unfold jlet
  rw [UInt8.toNat_ofNat']; omega
def jw (n : Bs) : Bs := (n.take 16).map jlet
def shown : Nat → Bs
  | 0 => [40] | 1 => [41] | 2 => [44] | 3 => [61] | 4 => [59] | 5 => [226, 134, 144] | _ => [226, 136, 167]
def shownR : Nat → List Nat
  | 0 => [40] | 1 => [41] | 2 => [44] | 3 => [61] | 4 => [59] | 5 => [8592] | _ => [8743]
def meant : Nat → Bs
  | 0 => [40] | 1 => [41] | 2 => [44] | 3 => [61] | 4 => [59] | 5 => [61] | _ => [44]
theorem shown_piece (k : Nat) : Piece (shown k) (shownR k) := by
  unfold shown shownR
  split
  · exact Piece.a1 40 (by decide)
  · exact Piece.a1 41 (by decide)
  · exact Piece.a1 44 (by decide)
  · exact Piece.a1 61 (by decide)
  · exact Piece.a1 59 (by decide)
  · exact Piece.arrow
  · exact Piece.and
theorem shown_mach (k : Nat) (out : List WV) (p : Nat × Nat) (o : Bool) : mach ⟨out, (0, 0), p, false, o⟩ (shownR k) = ⟨out ++ [⟨false, meant k, p.1, p.2⟩], (0, 0), (p.1, p.2 + 1), false, false⟩ := by
  unfold shownR meant
  split <;> rfl
theorem shown_len (k : Nat) : (shown k).length ≤ 3 := by
  unfold shown
  split <;> decide
/-- Is a text a name? -/
def nm : Bs → Bool
  | [] => false
  | c :: _ => 97 ≤ c.toNat && c.toNat ≤ 122
theorem nm_meant (k : Nat) : nm (meant k) = false := by
  unfold meant
  split <;> rfl
theorem nm_jw (n : Bs) (h : jw n ≠ []) : nm (jw n) = true := by
  unfold jw at h ⊢
  cases hn : n.take 16 with
  | nil => rw [hn] at h; exact absurd rfl h
  | cons c r =>
    have := jlet_nat c
    simp [nm, this]; omega
theorem jw_ok (n : Bs) (h : jw n ≠ []) (a b : Nat) (ha : 1 ≤ a) : WOK ⟨true, jw n, a, b⟩ := by
  refine ⟨ha, .inl ⟨rfl, h, fun x hx => ?_⟩⟩
  obtain ⟨y, _, rfl⟩ := List.mem_map.1 hx
  have := jlet_nat y
  omega
theorem jw_len (n : Bs) : (jw n).length ≤ 16 := by
  unfold jw
  rw [List.length_map, List.length_take]; omega
def osB : Option Nat → Bs
  | some k => shown k
  | none => []
def osP : Option Nat → List Bs
  | some k => [meant k]
  | none => []
theorem osB_len (o : Option Nat) : (osB o).length ≤ 3 := by
  cases o with
  | none => simp [osB]
  | some k => exact shown_len k
/-- One round: a name, a sign, a gap. -/
structure JR where
  name : Bs
  sign : Option Nat
  gap : Nat
def JR.text (r : JR) : Bs := jw r.name ++ (osB (r.sign) ++ gapB r.gap)
def JR.parts (r : JR) : List Bs := (if jw r.name = [] then [] else [jw r.name]) ++ osP (r.sign)
def jtext (l : List JR) : Bs := l.flatMap JR.text
def jparts (l : List JR) : List Bs := l.flatMap JR.parts
theorem JR.text_len (r : JR) : r.text.length ≤ 25 := by
  obtain ⟨n, s, g⟩ := r
  have h1 := jw_len n
  have h2 := gap_len g
  unfold JR.text
  rw [List.length_append, List.length_append]
  have := osB_len s
  simp only; omega
theorem jtext_len (l : List JR) : (jtext l).length ≤ l.length * 25 := by
  induction l with
  | nil => simp [jtext]
  | cons r l ih =>
    have e : jtext (r :: l) = r.text ++ jtext l := rfl
    have := r.text_len
    rw [e, List.length_append, List.length_cons]; omega
theorem jparts_len (l : List JR) : (jparts l).length ≤ l.length * 2 := by
  induction l with
  | nil => simp [jparts]
  | cons r l ih =>
    have e : jparts (r :: l) = r.parts ++ jparts l := rfl
    have : r.parts.length ≤ 2 := by unfold JR.parts osP; split <;> split <;> simp
    rw [e, List.length_append, List.length_cons]; omega
/-- The words that stand for parts. -/
def Stand (ws : List WV) (ps : List Bs) : Prop := ws.map WV.text = ps ∧ ∀ x ∈ ws, x.name = nm x.text
theorem Stand.app {a b : List WV} {p q : List Bs} (h : Stand a p) (h' : Stand b q) : Stand (a ++ b) (p ++ q) := by
  refine ⟨by rw [List.map_append, h.1, h'.1], fun x hx => ?_⟩
  rcases List.mem_append.1 hx with hx | hx
  · exact h.2 x hx
  · exact h'.2 x hx
theorem Stand.one {x : WV} (h : x.name = nm x.text) : Stand [x] [x.text] := ⟨rfl, fun y hy => by simp only [List.mem_singleton] at hy; subst hy; exact h⟩
theorem JR.mach (r : JR) : ∃ rs, Piece r.text rs ∧ ∀ (out : List WV) (p : Nat × Nat), 1 ≤ p.1 → ∃ ws p', mach ⟨out, (0, 0), p, false, false⟩ rs = ⟨out ++ ws, (0, 0), p', false, false⟩ ∧ 1 ≤ p'.1 ∧ Stand ws r.parts := by
  obtain ⟨n, s, g⟩ := r
  have hgm : ∀ (out : List WV) (p : Nat × Nat) (o : Bool), 1 ≤ p.1 → ∃ p', Go.Proofs.YtmlhjahbbcgpaaaDoor.mach ⟨out, (0, 0), p, false, o⟩ (gapR g) = ⟨out, (0, 0), p', false, false⟩ ∧ 1 ≤ p'.1 := fun out p o hp => by
    refine ⟨_, gap_mach g out p o, ?_⟩
    have : ∀ (l : List Nat) (q : Nat × Nat), 1 ≤ q.1 → 1 ≤ (placeOf q l).1 := by
      intro l
      induction l with
      | nil => intro q h; exact h
      | cons c l ih => intro q h; exact ih _ (stepP_pos q c h)
    exact this _ _ hp
  -- the sign and the gap
  have hsg : ∃ rs, Piece (osB (s) ++ gapB g) rs ∧ ∀ (out : List WV) (p : Nat × Nat) (o : Bool), 1 ≤ p.1 → ∃ ws p', Go.Proofs.YtmlhjahbbcgpaaaDoor.mach ⟨out, (0, 0), p, false, o⟩ rs = ⟨out ++ ws, (0, 0), p', false, false⟩ ∧ 1 ≤ p'.1 ∧ Stand ws (osP s) := by
    cases s with
    | none =>
      refine ⟨gapR g, gap_piece g, fun out p o hp => ?_⟩
      obtain ⟨p', h1, h2⟩ := hgm out p o hp
      exact ⟨[], p', by rw [h1, List.append_nil], h2, rfl, fun x hx => by simp at hx⟩
    | some k =>
      refine ⟨shownR k ++ gapR g, (shown_piece k).app (gap_piece g), fun out p o hp => ?_⟩
      obtain ⟨p', h1, h2⟩ := hgm (out ++ [⟨false, meant k, p.1, p.2⟩]) (p.1, p.2 + 1) false hp
      exact ⟨[⟨false, meant k, p.1, p.2⟩], p', by rw [mach_app, shown_mach, h1], h2, Stand.one (x := ⟨false, meant k, p.1, p.2⟩) (nm_meant k).symm⟩
  obtain ⟨rs, hp1, hm1⟩ := hsg
  by_cases hn : jw n = []
  · refine ⟨rs, ?_, fun out p hp => ?_⟩
    · show Piece (jw n ++ _) rs
      rw [hn]; exact hp1
    · obtain ⟨ws, p', h1, h2, h3⟩ := hm1 out p false hp
      refine ⟨ws, p', h1, h2, ?_⟩
      show Stand ws ((if jw n = [] then [] else [jw n]) ++ _)
      rw [if_pos hn]; exact h3
  · have hok := jw_ok n hn 1 1 (Nat.le_refl _)
    refine ⟨(jw n).map UInt8.toNat ++ rs, (Piece.ascii _ hok.lt).app hp1, fun out p hp => ?_⟩
    have hmw := mach_word ⟨true, jw n, 1, 1⟩ hok (jw_len n) out (0, 0) p false (fun _ => rfl)
    simp only at hmw
    obtain ⟨ws, p', h1, h2, h3⟩ := hm1 (out ++ [⟨true, jw n, p.1, p.2⟩]) (p.1, p.2 + (jw n).length) true hp
    refine ⟨⟨true, jw n, p.1, p.2⟩ :: ws, p', by rw [mach_app, hmw, h1, List.append_assoc]; rfl, h2, ?_⟩
    show Stand _ ((if jw n = [] then [] else [jw n]) ++ _)
    rw [if_neg hn]
    exact (Stand.one (x := ⟨true, jw n, p.1, p.2⟩) (nm_jw n hn).symm).app h3
theorem jmach (l : List JR) : ∃ rs, Piece (jtext l) rs ∧ ∀ (out : List WV) (p : Nat × Nat), 1 ≤ p.1 → ∃ ws p', mach ⟨out, (0, 0), p, false, false⟩ rs = ⟨out ++ ws, (0, 0), p', false, false⟩ ∧ 1 ≤ p'.1 ∧ Stand ws (jparts l) := by
  induction l with
  | nil => exact ⟨[], Piece.nil, fun out p hp => ⟨[], p, by rw [List.append_nil]; rfl, hp, rfl, fun x hx => by simp at hx⟩⟩
  | cons r l ih =>
    obtain ⟨rs, h1, h2⟩ := r.mach
    obtain ⟨rs', h1', h2'⟩ := ih
    refine ⟨rs ++ rs', h1.app h1', fun out p hp => ?_⟩
    obtain ⟨ws, p', g1, g2, g3⟩ := h2 out p hp
    obtain ⟨ws', p'', g1', g2', g3'⟩ := h2' (out ++ ws) p' g2
    exact ⟨ws ++ ws', p'', by rw [mach_app, g1, g1', List.append_assoc], g2', g3.app g3'⟩
/-- Split finds the parts again. -/
theorem split_joined (l : List JR) (hl : l.length ≤ 30) : ∃ ws, splitP (jtext l) = (ws, 0, 0, 0) ∧ Stand ws (jparts l) := by
  obtain ⟨rs, h1, h2⟩ := jmach l
  obtain ⟨ws, p', g1, g2, g3⟩ := h2 [] (1, 1) (Nat.le_refl _)
  have hlen := jtext_len l
  refine ⟨ws, ?_, g3⟩
  unfold splitP
  rw [if_neg (by omega), h1.all]
  simp only
  rw [show MS.init = ⟨[], (0, 0), (1, 1), false, false⟩ from rfl, g1]
  simp
end Go.Proofs.YtmlhjahbbcgpaaaDoor
