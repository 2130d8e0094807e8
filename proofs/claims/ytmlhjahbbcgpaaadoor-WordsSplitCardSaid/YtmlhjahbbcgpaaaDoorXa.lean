/- rhizomeref02.Rune, in plain Lean: the reference's decoder says what the library's says. -/
import Derived.Test.YtmlhjahbbcgpaaaDoorWm
namespace Go.Proofs.YtmlhjahbbcgpaaaDoor
open Vb

def cls (b : Nat) : Option (Nat × Nat × Nat) :=
  if 194 ≤ b ∧ b < 224 then some (2, b - 192, 128) else if 224 ≤ b ∧ b < 240 then some (3, b - 224, 2048) else if 240 ≤ b ∧ b < 245 then some (4, b - 240, 65536) else none
def cont : List UInt8 → Nat → Option Nat
  | [], v => some v
  | b :: r, v => if b.toNat < 128 ∨ 191 < b.toNat then none else cont r (v * 64 + b.toNat - 128)
def fin3 (m lo v : Nat) : Nat × Nat := if v < lo ∨ 1114111 < v ∨ (55296 ≤ v ∧ v ≤ 57343) then (0, 0) else (m, v)
def refRune (t : Bs) : Nat × Nat :=
  match t with
  | [] => (0, 0)
  | b :: r => if b.toNat < 128 then (1, b.toNat) else
    match cls b.toNat with
    | none => (0, 0)
    | some (m, v, lo) => if r.length + 1 < m then (0, 0) else
      match cont (r.take (m - 1)) v with
      | none => (0, 0)
      | some v' => fin3 m lo v'
def okSw (d : Nat × Nat) : Nat × Nat := if okd d then (d.2, d.1) else (0, 0)
theorem okSw_bad : okSw (65533, 1) = (0, 0) := rfl
theorem okSw_n {v m : Nat} (h : 2 ≤ m) : okSw (v, m) = (m, v) := by
  have : okd (v, m) = true := by
    cases h' : okd (v, m)
    · have := (okd_iff (d := (v, m))).1 h'; simp at this; omega
    · rfl
  unfold okSw; rw [this]; rfl
theorem okSw_1 {v : Nat} (h : v < 128) : okSw (v, 1) = (1, v) := by
  unfold okSw; rw [okd_lt h]; rfl
def refN (n b0 b1 b2 b3 : Nat) : Nat × Nat :=
  if b0 < 128 then (1, b0)
  else if 194 ≤ b0 ∧ b0 < 224 then (if 1 < n then (if b1 < 128 ∨ 191 < b1 then (0, 0) else fin3 2 128 ((b0 - 192) * 64 + b1 - 128)) else (0, 0))
  else if 224 ≤ b0 ∧ b0 < 240 then (if 2 < n then (if b1 < 128 ∨ 191 < b1 then (0, 0) else if b2 < 128 ∨ 191 < b2 then (0, 0) else fin3 3 2048 (((b0 - 224) * 64 + b1 - 128) * 64 + b2 - 128)) else (0, 0))
  else if 240 ≤ b0 ∧ b0 < 245 then (if 3 < n then (if b1 < 128 ∨ 191 < b1 then (0, 0) else if b2 < 128 ∨ 191 < b2 then (0, 0) else if b3 < 128 ∨ 191 < b3 then (0, 0) else fin3 4 65536 ((((b0 - 240) * 64 + b1 - 128) * 64 + b2 - 128) * 64 + b3 - 128)) else (0, 0))
  else (0, 0)
set_option maxHeartbeats 4000000 in
theorem refN_eq (n b0 b1 b2 b3 : Nat) (h0 : b0 < 256) (h1 : b1 < 256) (h2 : b2 < 256) (h3 : b3 < 256) : refN n b0 b1 b2 b3 = okSw (Lib.decodeN n b0 b1 b2 b3) := by
  unfold refN Lib.decodeN
  by_cases c1 : b0 < 128
  · rw [if_pos c1, if_pos c1, okSw_1 c1]
  rw [if_neg c1, if_neg c1]
  unfold fin3
  repeat' split
  all_goals first | rfl | omega | (rw [okSw_n (by decide)]; simp only [Prod.mk.injEq, true_and]; omega)
theorem refRune_N (b : UInt8) (r : Bs) : refRune (b :: r) = refN (r.length + 1) b.toNat (r.getD 0 0).toNat (r.getD 1 0).toNat (r.getD 2 0).toNat := by
  unfold refRune refN cls
  simp only
  by_cases c1 : b.toNat < 128
  · rw [if_pos c1, if_pos c1]
  rw [if_neg c1, if_neg c1]
  by_cases c2 : 194 ≤ b.toNat ∧ b.toNat < 224
  · rw [if_pos c2, if_pos c2]
    match r with
    | [] => simp
    | a :: r' => by_cases ha : a.toNat < 128 ∨ 191 < a.toNat <;> simp [cont, ha] <;> (try (intro h; omega))
  rw [if_neg c2, if_neg c2]
  by_cases c3 : 224 ≤ b.toNat ∧ b.toNat < 240
  · rw [if_pos c3, if_pos c3]
    match r with
    | [] => simp
    | [a] => simp
    | a :: a' :: r' => by_cases ha : a.toNat < 128 ∨ 191 < a.toNat <;> by_cases hb : a'.toNat < 128 ∨ 191 < a'.toNat <;> simp [cont, ha, hb] <;> (try (intro h; omega))
  rw [if_neg c3, if_neg c3]
  by_cases c4 : 240 ≤ b.toNat ∧ b.toNat < 245
  · rw [if_pos c4, if_pos c4]
    match r with
    | [] => simp
    | [a] => simp
    | [a, a'] => simp
    | a :: a' :: a'' :: r' => by_cases ha : a.toNat < 128 ∨ 191 < a.toNat <;> by_cases hb : a'.toNat < 128 ∨ 191 < a'.toNat <;> by_cases hc : a''.toNat < 128 ∨ 191 < a''.toNat <;> simp [cont, ha, hb, hc] <;> (try (intro h; omega))
  rw [if_neg c4, if_neg c4]
theorem refRune_dec (t : Bs) (h : t ≠ []) : refRune t = okSw (dec t) := by
  cases t with
  | nil => exact absurd rfl h
  | cons b r =>
    have hN : dec (b :: r) = _ := Lib.decodeL_N (b :: r)
    rw [hN, refRune_N, refN_eq _ _ _ _ _ b.toNat_lt (r.getD 0 0).toNat_lt (r.getD 1 0).toNat_lt (r.getD 2 0).toNat_lt]
    rfl
end Go.Proofs.YtmlhjahbbcgpaaaDoor
