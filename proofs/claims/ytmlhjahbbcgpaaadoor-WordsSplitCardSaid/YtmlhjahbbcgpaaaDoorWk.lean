/- The rows' listed tables: what the law needs of memory; a world that lays them. -/
import Derived.Test.YtmlhjahbbcgpaaaDoorTy
import Derived.Test.YtmlhjahbbcgpaaaDoorWc
import Derived.Test.YtmlhjahbbcgpaaaDoorRows
import Derived.Lib.LaidU8
import Derived.Lay
import Derived.LaidOnce
import Derived.ProofKit
namespace Go.Proofs.YtmlhjahbbcgpaaaDoor
open Vb Go.RowKit Go.Shelf Go.Lib

def wlaid : List (String × DataW Unit) := [("unicode/utf8.acceptRanges", Rows.laid_unicode_utf8_acceptRanges), ("unicode/utf8.first", Rows.laid_unicode_utf8_first)]
theorem first_eq : Rows.laid_unicode_utf8_first = firstData := by kernel_rfl
theorem accept_eq : (Rows.laid_unicode_utf8_acceptRanges : DataW Unit) = acceptData := by kernel_rfl
theorem Tryd.lays260 : Lays.n260 Tryd.prog Tryd.ren := { Tryd.lays197 with }
theorem Tryd.u8x : U8Extra Tryd.prog Tryd.ren := ⟨by kernel_rfl, by kernel_rfl, by kernel_rfl, by kernel_rfl, by kernel_rfl, by kernel_rfl, by kernel_rfl⟩
theorem tabs_of_laid {w : World} (h : laidMetH Tryd.prog wlaid w) : Tabs w := by
  rw [MakeChecks.laidMetH_plain _ _ _ (by kernel_rfl)] at h
  exact utf8Tabs_of_reads Tryd.lays260 Tryd.u8x (first_eq ▸ Lib.laidMet.reads h (.tail _ (.head _))) (accept_eq ▸ Lib.laidMet.reads h (.head _))
theorem laid_witness (os : Os) (args : Array Value) : laidMetH Tryd.prog wlaid ((World.laidAll Tryd.prog os wlaid).forCall (fun _ _ => 0) ⟨#[], args, []⟩).memory := by
  rw [MakeChecks.laidMetH_plain _ _ _ (by kernel_rfl)]
  exact laidMet_laidAll _ (by kernel_rfl) (by kernel_rfl)
theorem Tryd.own : ownKnob Tryd.prog.godebug = none := by kernel_rfl
theorem Tryd.laidOut : laidOutB Tryd.prog = true := by kernel_rfl
theorem bytes_str (s : ByteArray) : ∃ l : Bs, s = ⟨l.toArray⟩ := ⟨s.data.toList, by cases s; simp⟩
theorem byte_nat' (n : Nat) (h : n < 256) : (UInt8.ofNat n).toNat = n := by rw [UInt8.toNat_ofNat']; omega
theorem Opens.bytes : Opens Tryd.prog 34 (fun F w cs (x : Bs) => ∃ v, cs = [v] ∧ Bytes F w v x) :=
  (Opens.slice (t := 34) (Opens.int Tryd.underlying5)).imp (fun F w cs xs h => by
    obtain ⟨v, h1, A, c, h2, h3, h4, h5, h6⟩ := h
    refine ⟨xs.map (fun n => UInt8.ofNat n.toNat), v, h1, A, c, by simpa using h2, by simpa using h3, h4, by simpa using h5, fun i x hi => ?_⟩
    rw [List.getElem?_map] at hi
    obtain ⟨y, hy, rfl⟩ := Option.map_eq_some_iff.1 hi
    obtain ⟨b, o, cs, g1, g2, g3, g4, g5, g6⟩ := h6 i y hy
    refine ⟨b, o, cs, g1, g2, g3, g4, ?_⟩
    have hy : 0 ≤ y ∧ y < 256 := by
      have g7 := g6
      simp [Lit.wf, IntKind.min, IntKind.max, IntKind.signed, IntKind.bits] at g7
      omega
    have e : ((UInt8.ofNat y.toNat).toNat : Int) = y := by rw [byte_nat' _ (by omega)]; omega
    show cs = [.int .u8 ((UInt8.ofNat y.toNat).toNat : Int)]
    rw [e]; exact g5)
end Go.Proofs.YtmlhjahbbcgpaaaDoor
