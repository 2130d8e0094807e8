/- The library's decoder of a rune and strings.Clone, by the shelf's contracts: where they lie in this program. -/
import Derived.Test.YtmlhjahbbcgpaaaDoorTy
import Derived.Test.YtmlhjahbbcgpaaaDoorVj
import Derived.Shelf.Unicode.DecodeAny
import Derived.Shelf.Strconv.Clone
namespace Go.Proofs.YtmlhjahbbcgpaaaDoor
open Vb Go.RowKit Go.Shelf

def Tryd.ren : Ren := ⟨fun x => if x = 197 then 16 else if x = 260 then 24 else if x = 316 then 25 else x, fun x => if x = 46 then 63 else if x = 105 then 51 else if x = 119 then 62 else if x = 138 then 65 else if x = 139 then 66 else if x = 37 then 34 else if x = 127 then 67 else x, fun x => if x = 3 then 0 else if x = 4 then 1 else x⟩
theorem Tryd.lays197 : Lays.n197 Tryd.prog Tryd.ren :=
  { mixed := by kernel_rfl, f197 := by kernel_rfl, f260 := by kernel_rfl, t0 := by kernel_rfl, a0 := fun w => by kernel_rfl, z0 := fun w => by kernel_rfl, v0 := fun w => by kernel_rfl, t3 := by kernel_rfl, a3 := fun w => by kernel_rfl, z3 := fun w => by kernel_rfl, v3 := fun w => by kernel_rfl, t4 := by kernel_rfl, a4 := fun w => by kernel_rfl, z4 := fun w => by kernel_rfl, v4 := fun w => by kernel_rfl, t5 := by kernel_rfl, a5 := fun w => by kernel_rfl, z5 := fun w => by kernel_rfl, v5 := fun w => by kernel_rfl, t9 := by kernel_rfl, a9 := fun w => by kernel_rfl, z9 := fun w => by kernel_rfl, v9 := fun w => by kernel_rfl, t21 := by kernel_rfl, a21 := fun w => by kernel_rfl, z21 := fun w => by kernel_rfl, v21 := fun w => by kernel_rfl, t46 := by kernel_rfl, a46 := fun w => by kernel_rfl, z46 := fun w => by kernel_rfl, v46 := fun w => by kernel_rfl, t105 := by kernel_rfl, a105 := fun w => by kernel_rfl, z105 := fun w => by kernel_rfl, v105 := fun w => by kernel_rfl, t119 := by kernel_rfl, a119 := fun w => by kernel_rfl, z119 := fun w => by kernel_rfl, t138 := by kernel_rfl, a138 := fun w => by kernel_rfl, z138 := fun w => by kernel_rfl, v138 := fun w => by kernel_rfl, t139 := by kernel_rfl, a139 := fun w => by kernel_rfl, z139 := fun w => by kernel_rfl, v139 := fun w => by kernel_rfl, g3 := by kernel_rfl, g4 := by kernel_rfl }
theorem Tryd.lays316 : Lays.n316 Tryd.prog Tryd.ren :=
  { mixed := by kernel_rfl, f316 := by kernel_rfl, t0 := by kernel_rfl, a0 := fun w => by kernel_rfl, z0 := fun w => by kernel_rfl, v0 := fun w => by kernel_rfl, t3 := by kernel_rfl, a3 := fun w => by kernel_rfl, z3 := fun w => by kernel_rfl, v3 := fun w => by kernel_rfl, t4 := by kernel_rfl, a4 := fun w => by kernel_rfl, z4 := fun w => by kernel_rfl, v4 := fun w => by kernel_rfl, t9 := by kernel_rfl, a9 := fun w => by kernel_rfl, z9 := fun w => by kernel_rfl, v9 := fun w => by kernel_rfl, t37 := by kernel_rfl, a37 := fun w => by kernel_rfl, z37 := fun w => by kernel_rfl, v37 := fun w => by kernel_rfl, t127 := by kernel_rfl, a127 := fun w => by kernel_rfl, z127 := fun w => by kernel_rfl, v127 := fun w => by kernel_rfl }
theorem Tryd.laysM316 : LaysM.n316 Tryd.prog Tryd.ren :=
  { Tryd.lays316 with t5 := by kernel_rfl, a5 := fun w => by kernel_rfl, z5 := fun w => by kernel_rfl, v5 := fun w => by kernel_rfl, i0 := by kernel_rfl, i3 := by kernel_rfl, i4 := by kernel_rfl, i5 := by kernel_rfl, i9 := by kernel_rfl, i37 := by kernel_rfl, i127 := by kernel_rfl }

theorem Meets.of_calls {P : Program} {f : FuncId} {vs : Array Value} {w : World} {v : Value} (h : Calls P f vs w fun e w' => e = .returned v ∧ Below w.heap.size w w') : Meets P f vs w (fun r w' => r = v ∧ Keep Non w w') :=
  ⟨h.mono fun e w' he => by obtain ⟨rfl, hb⟩ := he; exact ⟨rfl, Keep.of_below hb⟩⟩
/-- utf8.DecodeRuneInString -/
theorem decode_spec (s : List UInt8) (w : World) (hT : Lib.Utf8Tabs 0 1 w) (hne : s ≠ []) :
    Meets Tryd.prog 16 #[str s] w (fun r w' => r = .tuple #[.int .i32 (dec s).1, .int .i64 (dec s).2] ∧ Keep Non w w') := by
  have h : Calls Tryd.prog 16 #[.string ⟨s.toArray⟩] w _ := Any.utf8_DecodeRuneInString Tryd.lays197 ⟨s.toArray⟩ w hT
  have e : Lib.decodeGo ⟨s.toArray⟩ = dec s := by
    unfold Lib.decodeGo
    rw [if_neg (by rw [str_size]; intro h; exact hne (List.eq_nil_of_length_eq_zero h))]
    rfl
  rw [e] at h
  exact Meets.of_calls h
/-- strings.Clone -/
theorem sclone_spec (s : List UInt8) (w : World) (hl : s.length ≤ 1000000) : Meets Tryd.prog 20 #[str s] w (fun r w' => r = str s ∧ Keep Non w w') := by
  have h : Calls Tryd.prog 25 #[.string ⟨s.toArray⟩] w _ := Any.stringslite_Clone Tryd.laysM316 ⟨s.toArray⟩ w (by rw [str_size]; omega)
  refine Meets.enter Tryd.func20 Tryd.ntmps20 rfl rfl ?_
  (repeat first|refine .seq ?_|refine .region ?_|refine .block ?_|refine .skip ?_|refine .ret ?_|refine .exit ?_|refine .yes rfl ?_|refine .no rfl ?_|refine .nil ?_|refine .go ?_|refine .thenExit ?_|refine .thenRet ?_|refine .inExit ?_|refine .outExit rfl ?_|refine .inNormal ?_|refine .inRet ?_|refine .off rfl rfl ?_|refine .offU rfl rfl rfl ?_|(apply W.y rfl rfl;first|exact .move rfl|exact .assign rfl|exact .fieldC rfl|exact .loadW rfl (by (first|apply Ld.oneC|apply Ld.two|apply Ld.three|apply Ld.four|apply Ld.five);repeat(first|assumption|exact Row.cell (by assumption) (by first|rfl|assumption)))|exact .nilCheck rfl|exact .lenC rfl|exact .lenStrC rfl|exact .extract rfl rfl|exact .not rfl|exact .pickT rfl rfl|exact .pickF rfl rfl|exact .buildC rfl rfl|exact .indexC _ rfl rfl rfl (by omega)|exact .indexC 0 rfl rfl rfl (by omega)|exact .indexC 1 rfl rfl rfl (by omega)|exact .indexC 2 rfl rfl rfl (by omega)|exact .indexArrC _ rfl rfl rfl (by omega)|exact .indexArrC 0 rfl rfl rfl (by omega)|exact .indexArrC 1 rfl rfl rfl (by omega)|exact .indexArrC 2 rfl rfl rfl (by omega)|exact .add _ rfl rfl (wrap_i64 (by omega))|exact .sub _ rfl rfl (wrap_i64 (by omega))|exact .rem _ rfl rfl (by decide) (Int.tmod_eq_emod_of_nonneg (by omega))|exact .cmpT rfl rfl rfl (by unfold cmpP;omega)|exact .cmpF rfl rfl rfl (by unfold cmpP;omega)|fail)|fail)
  refine W.st rfl rfl (St.callC rfl (Meets.of_calls h)) (fun v1 w1 h1 => ?_)
  obtain ⟨rfl, k1⟩ := h1
  (repeat first|refine .seq ?_|refine .region ?_|refine .block ?_|refine .skip ?_|refine .ret ?_|refine .exit ?_|refine .yes rfl ?_|refine .no rfl ?_|refine .nil ?_|refine .go ?_|refine .thenExit ?_|refine .thenRet ?_|refine .inExit ?_|refine .outExit rfl ?_|refine .inNormal ?_|refine .inRet ?_|refine .off rfl rfl ?_|refine .offU rfl rfl rfl ?_|(apply W.y rfl rfl;first|exact .move rfl|exact .assign rfl|exact .fieldC rfl|exact .loadW rfl (by (first|apply Ld.oneC|apply Ld.two|apply Ld.three|apply Ld.four|apply Ld.five);repeat(first|assumption|exact Row.cell (by assumption) (by first|rfl|assumption)))|exact .nilCheck rfl|exact .lenC rfl|exact .lenStrC rfl|exact .extract rfl rfl|exact .not rfl|exact .pickT rfl rfl|exact .pickF rfl rfl|exact .buildC rfl rfl|exact .indexC _ rfl rfl rfl (by omega)|exact .indexC 0 rfl rfl rfl (by omega)|exact .indexC 1 rfl rfl rfl (by omega)|exact .indexC 2 rfl rfl rfl (by omega)|exact .indexArrC _ rfl rfl rfl (by omega)|exact .indexArrC 0 rfl rfl rfl (by omega)|exact .indexArrC 1 rfl rfl rfl (by omega)|exact .indexArrC 2 rfl rfl rfl (by omega)|exact .add _ rfl rfl (wrap_i64 (by omega))|exact .sub _ rfl rfl (wrap_i64 (by omega))|exact .rem _ rfl rfl (by decide) (Int.tmod_eq_emod_of_nonneg (by omega))|exact .cmpT rfl rfl rfl (by unfold cmpP;omega)|exact .cmpF rfl rfl rfl (by unfold cmpP;omega)|fail)|fail)
  exact E.ret1 rfl rfl ⟨rfl, k1⟩
end Go.Proofs.YtmlhjahbbcgpaaaDoor
