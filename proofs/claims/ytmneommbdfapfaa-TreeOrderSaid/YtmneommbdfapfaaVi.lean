/- Functions as values; an append that has no room. No program is named here. -/
import Derived.Test.YtmneommbdfapfaaVh
import Derived.Test.YtmneommbdfapfaaVf
namespace Go.Proofs.Ytmneommbdfapfaa.Vb
open Go.RowKit

section
variable {P : Program} {n : Nat} {L : FL} {S : World → Prop} {ty : TypeId} {w : World}
theorem Y.makeFunc {fn : Fn} {first caps : List Operand} {vs cs : List Value} (h1 : evs L first = some vs) (h2 : evs L caps = some cs) : Y P n L S (.makeFunc fn first.toArray caps.toArray) ty (.func fn vs.toArray cs.toArray) := ⟨fun a ha w _ dst pos after guard => by
  have e1 := ha.evals h1
  have e2 := ha.evals h2
  simp [execOp, Instr.makeFunc, e1, e2]⟩
theorem St.callF {f : FuncId} {x : Operand} {xs : List Operand} {ats : Array TypeId} {vs cs : List Value} {R : Value → World → Prop} [hf : GoC P f] (hx : ev L x = some (.func (.func f) #[] cs.toArray)) (ha : evs L xs = some vs) (hs : Meets P f (vs ++ cs).toArray w R) :
    St P n L w (.call { callee := .value x, args := xs.toArray, argTypes := ats }) ty R := ⟨fun a hfr dst pos after guard K Q hK => by
  unfold Oper.wp
  have e1 := hfr.eval hx
  have e2 := hfr.evals ha
  have h1 : (execOp a.eval ⟨dst, .call { callee := .value x, args := xs.toArray, argTypes := ats }, ty, pos, after, guard⟩).run P w = .ok (.enter f (vs ++ cs).toArray) w := by
    have := hf.out (vs ++ cs).toArray w
    simp [execOp, resolve, Deferred.ofValue, e1, e2, invoke]
    simpa using this
  rw [h1, Oper.upon_enter]
  refine hs.out.mono fun e w' he => ?_
  cases e with
  | returned v => exact hK v w' he
  | _ => exact he.elim⟩
theorem St.appendGrow {s x : Operand} {t e : TypeId} {z : Value} {sz bytes : Nat} {b0 o0 m c b o k c' : Nat} (olds news : List Value) [ht : SlC P t e] [he : TyC P e z sz bytes] (hs : ev L s = some (.slice (some ⟨b0, o0, none⟩) m c)) (hx : ev L x = some (.slice (some ⟨b, o, none⟩) k c'))
    (hold : Cells w b0 o0 olds) (hol : olds.length = m * sz) (hnews : Cells w b o news) (hl : news.length = k * sz) (h1 : ∀ u ∈ news, u.oneCell' = true) (hg : c < m + k) (hfit : Builtin.nextslicecap (m + k) c * bytes ≤ 281474976710656) (h63 : m + k ≤ 1099511627776) :
    St P n L w (.call { callee := .builtin .append, args := #[s, x], argTypes := #[t, t] }) ty (fun v' w' => ∃ b' cap, v' = .slice (some ⟨b', 0, none⟩) (m + k) cap ∧ m + k ≤ cap ∧ b' = w.heap.size ∧ Keep Non w w' ∧ w'.heap.size = w.heap.size + 1 ∧ Cells w' b' 0 (olds ++ news)) :=
  St.run fun a ha dst pos after guard => by
    obtain ⟨i, hi, hz0, hz1, hz2⟩ := he.out.get
    subst hz1; subst hz2
    have hsrc : Src P i.size t (.slice (some ⟨b, o, none⟩) k c') k news w := Src.ofSlice w ht.out _ _ _ _ hl (fun j u hj => by rw [add_addr]; exact hnews j u hj) h1
    have hr := run_append_grow_src (P := P) w t t ty e i z ht.out hi hz0 (some ⟨b0, o0, none⟩) m c olds (by
      refine run_firstCells_some w.drew i.size m ⟨b0, o0, none⟩ m c olds hol (fun j v hj => ?_)
      rw [add_addr]
      exact hold j v hj) _ k news hsrc hg (by omega) hfit
    have hN := New.of_alloc' w.drew ((olds ++ news).toArray ++ Builtin.zeroCells z.cells (grownCap w (m + k) c e - (m + k))) e
    refine ⟨.slice (some ⟨w.heap.size, 0, none⟩) (m + k) (grownCap w (m + k) c e), w.drew.alloc (.cells ((olds ++ news).toArray ++ Builtin.zeroCells z.cells (grownCap w (m + k) c e - (m + k))) e), by simp [execOp, resolve, invoke, builtin, ha.eval hs, ha.eval hx, hr], _, _, rfl, ?_, rfl, ?_, ?_, ?_⟩
    · exact grownCap_ge w _ _ _
    · exact (⟨rfl, rfl, rfl, Nat.le_refl _, fun _ _ _ => rfl⟩ : Keep Non w w.drew).then hN.keep
    · exact hN.size
    · refine hN.row.cells 0 _ ?_
      rw [List.drop_zero, Array.toList_append, List.take_left']
      rfl
end
end Go.Proofs.Ytmneommbdfapfaa.Vb
