/- What the laws' walks share; arguments opened. -/
import Derived.Test.YtmneommbdfapfaaTj
import Derived.Test.YtmneommbdfapfaaTl
import Derived.Test.YtmneommbdfapfaaTh
import Derived.Test.YtmneommbdfapfaaVf
namespace Go.Proofs.Ytmneommbdfapfaa
open Vb Go.RowKit

def RBs (F : Nat → Prop) : World → List Value → Bs → Prop := fun w cs x => ∃ v, cs = [v] ∧ Bytes F w v x
theorem bytes_cut {F : Nat → Prop} {w : World} {A : Option Addr} {m c n : Nat} {x : Bs} (h : Bytes F w (.slice A m c) x) (hn : n ≤ x.length) : Bytes F w (.slice A n c) (x.take n) := by
  obtain ⟨A', c', hv, hc, h0, hb, he⟩ := h
  simp only [Value.slice.injEq] at hv
  obtain ⟨rfl, rfl, rfl⟩ := hv
  have hl : (x.take n).length = n := by simp; omega
  refine ⟨A, c, by rw [hl], by omega, h0, by omega, fun i y hi => he i y ?_⟩
  have hi' : i < n := by have := (List.getElem?_eq_some_iff.1 hi).1; omega
  rw [List.getElem?_take_of_lt hi'] at hi
  exact hi
theorem byte_nat (i : Nat) (h : i < 256) : ((UInt8.ofNat i).toNat : Int) = i := by
  have : (UInt8.ofNat i).toNat = i := by simp; omega
  rw [this]
theorem wrap_u8 (x : Int) : IntKind.u8.wrap x = x % 256 := by
  simp [IntKind.wrap, IntKind.signed, IntKind.bits]
theorem put_sorted {t : Tr} (h : Sorted t.toList) (k x : Bs) : Sorted (t.put k x).toList := by
  rw [Tr.put_toList k x h]; exact insL_sorted k x h

theorem app_right {l r : List Pr} {j : Nat} (h : j < (l ++ r).length) (hl : l.length ≤ j) : r[j - l.length]'(by simp at h; omega) = (l ++ r)[j] := (List.getElem_append_right hl).symm
theorem gtr_eq (a b : Bs) : (!(Op.bytesLess a b || a == b)) = decide (b < a) := by
  rw [bytesLess_eq]
  rcases blt_tri a b with h | h | h
  · rw [decide_eq_true h, decide_eq_false (blt_asymm h)]; rfl
  · subst h; rw [decide_eq_false (blt_irrefl a)]; simp
  · rw [decide_eq_true h, decide_eq_false (blt_asymm h)]
    have : (a == b) = false := by
      rw [beq_eq_false_iff_ne]
      rintro rfl
      exact blt_irrefl a h
    simp [this]

theorem Y.neqStrF {P : Program} {n : Nat} {L : FL} {S : World → Prop} {ty : TypeId} {x y : Operand} {t t' : TypeId} {a : Bs} (hx : ev L x = some (str a)) (hy : ev L y = some (str a)) : Y P n L S (.binOp .neq t x y t') ty (.bool false) := by
  have := Y.neqStr (P := P) (n := n) (S := S) (ty := ty) (t := t) (t' := t') hx hy
  simpa using this

/-! ### Arguments -/
theorem Try.own : ownKnob Try.prog.godebug = none := by kernel_rfl
theorem Try.laidOut : laidOutB Try.prog = true := by kernel_rfl
theorem okWide_array {P : Program} {W : World} {r : Reach} {base t m : Nat} {e : TypeId} {v : Value} (ht : P.underlying t = some (.array m e)) (h : Value.okWide P W r base t v) : ∃ cs, v = .agg cs ∧ cs.size = P.cellsOf t := by
  simp only [Value.okWide, ht] at h
  obtain ⟨cs, h1, h2, _⟩ := h
  exact ⟨cs, h1, h2⟩
theorem Opens.bytes : Opens Try.prog 23 (fun F w cs (x : Bs) => ∃ v, cs = [v] ∧ Bytes F w v x) :=
  (Opens.slice (t := 23) (Opens.int Try.underlying5)).imp (fun F w cs xs h => by
    obtain ⟨v, h1, A, c, h2, h3, h4, h5, h6⟩ := h
    refine ⟨xs.map (fun n => UInt8.ofNat n.toNat), v, h1, A, c, by simpa using h2, by simpa using h3, h4, by simpa using h5, fun i x hi => ?_⟩
    rw [List.getElem?_map] at hi
    obtain ⟨y, hy, rfl⟩ := Option.map_eq_some_iff.1 hi
    obtain ⟨b, o, cs, g1, g2, g3, g4, g5, g6⟩ := h6 i y hy
    refine ⟨b, o, cs, g1, g2, g3, g4, ?_⟩
    have hy : 0 ≤ y ∧ y < 256 := by
      have g7 := g6
      simp [Lit.wf, IntKind.min, IntKind.max, IntKind.signed, IntKind.bits] at g7
      omega
    have e : ((UInt8.ofNat y.toNat).toNat : Int) = y := by rw [byte_nat _ (by omega)]; omega
    show cs = [.int .u8 ((UInt8.ofNat y.toNat).toNat : Int)]
    rw [e]
    exact g5)
theorem Opens.bss : Opens Try.prog 22 (fun F w cs (x : List Bs) => ∃ v, cs = [v] ∧ Sl F 1 24 (RBs F) w v x) := Opens.slice (t := 22) Opens.bytes
end Go.Proofs.Ytmneommbdfapfaa
