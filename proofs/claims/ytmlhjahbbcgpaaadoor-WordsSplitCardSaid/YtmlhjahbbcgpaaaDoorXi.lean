/- rhizomeref08.Same, rhizomelaw08.ref. -/
import Derived.Test.YtmlhjahbbcgpaaaDoorXh
import Derived.Laws.StructEq
import Derived.WalkKit
namespace Go.Proofs.YtmlhjahbbcgpaaaDoor
open Vb Go.RowKit

theorem eq59 (a : Bool) (s : ByteArray) (l c : Int) (w : World) : (Op.equalIn 10000 59 (.agg #[.bool a, .string s, .int .i64 l, .int .i64 c]) (.agg #[.bool a, .string s, .int .i64 l, .int .i64 c])).run Tryd.prog w = .ok true w := by
  have u3 := Tryd.underlying3
  have u4 := Tryd.underlying4
  have u9 := Tryd.underlying9
  have a3 := Tryd.isAgg3
  have z3 := Tryd.sizeOf3
  have a4 := Tryd.isAgg4
  have z4 := Tryd.sizeOf4
  have a9 := Tryd.isAgg9
  have z9 := Tryd.sizeOf9
  have hS : Tryd.prog.underlying 59 = some (.struct (Tryd.prog.fieldsOf 59)) := by kernel_rfl
  have hp : Tryd.prog.stoodInHeld 59 = false := by kernel_rfl
  rw [show (10000 : Nat) = 9999 + 1 from rfl, run_equalIn_agg w 9999 59 _ _ hS hp]
  simp only [Program.fieldsOf, Tryd.underlying59]
  go_simp
theorem Y.neqWord {n : Nat} {L : FL} {S : World → Prop} {ty t' : TypeId} {x y : Operand} {a : Bool} {s : Bs} {l c : Int} (hx : ev L x = some (.agg #[.bool a, str s, .int .i64 l, .int .i64 c])) (hy : ev L y = some (.agg #[.bool a, str s, .int .i64 l, .int .i64 c])) : Y Tryd.prog n L S (.binOp .neq 59 x y t') ty (.bool false) := ⟨fun f hf w _ dst pos after guard => by
  have h1 := hf.eval hx
  have h2 := hf.eval hy
  unfold str at h1 h2
  have hg := run_eqGuard_agg (P := Tryd.prog) w .neq 59 x y #[.bool a, .string ⟨s.toArray⟩, .int .i64 l, .int .i64 c] #[.bool a, .string ⟨s.toArray⟩, .int .i64 l, .int .i64 c] (by kernel_rfl)
  simp only [execOp, h1, h2, Sem.run_bind, hg, Result.andThen_ok, run_neq_struct, eq59]
  rfl⟩
end Go.Proofs.YtmlhjahbbcgpaaaDoor
