/- Functions as values; an append that has no room. No program is named here. -/
import Derived.Test.YtkehmehodgcdfaaVh
import Derived.Test.YtkehmehodgcdfaaVf
namespace Go.Proofs.Ytkehmehodgcdfaa.Vb
open Go.RowKit

section
variable {P : Program} {n : Nat} {L : FL} {S : World → Prop} {ty : TypeId} {w : World}
theorem Y.makeFunc {fn : Fn} {first caps : List Operand} {vs cs : List Value} (h1 : evs L first = some vs) (h2 : evs L caps = some cs) : Y P n L S (.makeFunc fn first.toArray caps.toArray) ty (.func fn vs.toArray cs.toArray) := ⟨fun a ha w _ dst pos after guard => by
  have e1 := ha.evals h1
  have e2 := ha.evals h2
  simp [execOp, Instr.makeFunc, e1, e2]⟩
theorem St.ofY {op : Op} {v : Value} (h : Y P n L (fun w' => w' = w) op ty v) : St P n L w op ty (fun r w' => r = v ∧ w' = w) :=
  St.run fun a ha dst pos after guard => ⟨v, w, h.out a ha w rfl dst pos after guard, rfl, rfl⟩
theorem St.imp {op : Op} {R R' : Value → World → Prop} (h : St P n L w op ty R) (hr : ∀ v w', R v w' → R' v w') : St P n L w op ty R' := ⟨fun a ha dst pos after guard K Q hK => h.out a ha dst pos after guard K Q (fun v w' hR => hK v w' (hr v w' hR))⟩
/-- Bytes are appended, maybe none. -/
theorem St.appendB {s x : Operand} {t e : TypeId} {z : Value} (base : Nat) {v v2 : Value} {m1 : Nat} {olds : List Value} {G : Nat → Prop} {xs : List UInt8} [ht : SlC P t e] [he : TyC P e z 1 1] (hs : ev L s = some v) (hx : ev L x = some v2) (hown : w.ownsRow base e 1 v m1 olds) (hB : Bytes G w v2 xs) (hb : m1 ≤ 4096) (hbase : base ≤ w.heap.size) :
    St P n L w (.call { callee := .builtin .append, args := #[s, x], argTypes := #[t, t] }) ty (fun v' w' => w'.ownsRow base e 1 v' (m1 + xs.length) (olds ++ xs.map byteV) ∧ Keep (fun k => some k = v.ownBlock) w w' ∧ (v'.ownBlock = v.ownBlock ∨ v'.ownBlock = some w.heap.size)) := by
  have hlen := hB.len
  obtain ⟨A, c, rfl, hc, hn, hb1, he1⟩ := id hB
  by_cases h0 : xs.length = 0
  · have e0 : xs = [] := List.eq_nil_of_length_eq_zero h0
    subst e0
    have hmc : ∃ A' c', v = .slice A' m1 c' ∧ m1 ≤ c' := by
      rcases hown.2 with ⟨e1, e2⟩ | ⟨g, cap, cur, rfl, hg, hh, hcap, r⟩
      · exact ⟨none, 0, by rw [e1, e2], by omega⟩
      · exact ⟨_, cap, rfl, hcap⟩
    obtain ⟨A', c', rfl, hmc⟩ := hmc
    refine (St.ofY (Y.appendNoneC hs hx hmc)).imp (fun v' w' h => ?_)
    obtain ⟨rfl, rfl⟩ := h
    exact ⟨by simpa using hown, Keep.refl _ _, .inl rfl⟩
  · obtain ⟨b', o', e1, hFb, hcs⟩ := Bytes.cells hB (by omega)
    cases e1
    exact St.appendC base (xs.map byteV) hs hx hown hcs (by simp) (bytes_one _) (by omega) hbase
theorem St.callF {f : FuncId} {x : Operand} {xs : List Operand} {ats : Array TypeId} {vs cs : List Value} {R : Value → World → Prop} [hf : GoC P f] (hx : ev L x = some (.func (.func f) #[] cs.toArray)) (ha : evs L xs = some vs) (hs : Meets P f (vs ++ cs).toArray w R) :
    St P n L w (.call { callee := .value x, args := xs.toArray, argTypes := ats }) ty R := ⟨fun a hfr dst pos after guard K Q hK => by
  unfold Oper.wp
  have e1 := hfr.eval hx
  have e2 := hfr.evals ha
  have h1 : (execOp a.eval ⟨dst, .call { callee := .value x, args := xs.toArray, argTypes := ats }, ty, pos, after, guard⟩).run P w = .ok (.enter f (vs ++ cs).toArray) w := by
    have := hf.out (vs ++ cs).toArray w
    simp [execOp, resolve, Deferred.ofValue, e1, e2, invoke]
    simpa using this
  rw [h1, Oper.upon_enter]
  refine hs.out.mono fun e w' he => ?_
  cases e with
  | returned v => exact hK v w' he
  | _ => exact he.elim⟩
theorem St.appendGrow {s x : Operand} {t e : TypeId} {z : Value} {sz bytes : Nat} {b0 o0 m c b o k c' : Nat} (olds news : List Value) [ht : SlC P t e] [he : TyC P e z sz bytes] (hs : ev L s = some (.slice (some ⟨b0, o0, none⟩) m c)) (hx : ev L x = some (.slice (some ⟨b, o, none⟩) k c'))
    (hold : Cells w b0 o0 olds) (hol : olds.length = m * sz) (hnews : Cells w b o news) (hl : news.length = k * sz) (h1 : ∀ u ∈ news, u.oneCell' = true) (hg : c < m + k) (hfit : Builtin.nextslicecap (m + k) c * bytes ≤ 281474976710656) (h63 : m + k ≤ 1152921504606846976) :
    St P n L w (.call { callee := .builtin .append, args := #[s, x], argTypes := #[t, t] }) ty (fun v' w' => ∃ b' cap, v' = .slice (some ⟨b', 0, none⟩) (m + k) cap ∧ m + k ≤ cap ∧ b' = w.heap.size ∧ Keep Non w w' ∧ w'.heap.size = w.heap.size + 1 ∧ Cells w' b' 0 (olds ++ news)) :=
  St.run fun a ha dst pos after guard => by
    obtain ⟨i, hi, hz0, hz1, hz2⟩ := he.out.get
    subst hz1; subst hz2
    have hsrc : Src P i.size t (.slice (some ⟨b, o, none⟩) k c') k news w := Src.ofSlice w ht.out _ _ _ _ hl (fun j u hj => by rw [add_addr]; exact hnews j u hj) h1
    have hr := run_append_grow_src (P := P) w t t ty e i z ht.out hi hz0 (some ⟨b0, o0, none⟩) m c olds (by
      refine run_firstCells_some w.drew i.size m ⟨b0, o0, none⟩ m c olds hol (fun j v hj => ?_)
      rw [add_addr]
      exact hold j v hj) _ k news hsrc hg (by omega) hfit
    have hN := New.of_alloc' w.drew ((olds ++ news).toArray ++ Builtin.zeroCells z.cells (grownCap w (m + k) c e - (m + k))) e
    refine ⟨.slice (some ⟨w.heap.size, 0, none⟩) (m + k) (grownCap w (m + k) c e), w.drew.alloc (.cells ((olds ++ news).toArray ++ Builtin.zeroCells z.cells (grownCap w (m + k) c e - (m + k))) e), by simp [execOp, resolve, invoke, builtin, ha.eval hs, ha.eval hx, hr], _, _, rfl, ?_, rfl, ?_, ?_, ?_⟩
    · exact grownCap_ge w _ _ _
    · exact (⟨rfl, rfl, rfl, Nat.le_refl _, fun _ _ _ => rfl⟩ : Keep Non w w.drew).then hN.keep
    · exact hN.size
    · refine hN.row.cells 0 _ ?_
      rw [List.drop_zero, Array.toList_append, List.take_left']
      rfl
end
section
variable {P : Program} {n : Nat} {L : FL} {w : World} {fn : Func} {R : Value → World → Prop}
theorem E.ret3 {t u s : Nat} {v1 v2 v3 : Value} (hr : fn.results = #[.tmp t, .tmp u, .tmp s]) (h1 : get L t = some v1) (h2 : get L u = some v2) (h3 : get L s = some v3) (h : R (.tuple #[v1, v2, v3]) w) : E n (bodyPost P fn (Ret R)) .ret L w :=
  E.back (.inr rfl) (fun a ha => by simp [results, hr, ha.look _ _ h1, ha.look _ _ h2, ha.look _ _ h3]) h
theorem E.ret4 {t u s r : Nat} {v1 v2 v3 v4 : Value} (hr : fn.results = #[.tmp t, .tmp u, .tmp s, .tmp r]) (h1 : get L t = some v1) (h2 : get L u = some v2) (h3 : get L s = some v3) (h4 : get L r = some v4) (h : R (.tuple #[v1, v2, v3, v4]) w) : E n (bodyPost P fn (Ret R)) .ret L w :=
  E.back (.inr rfl) (fun a ha => by simp [results, hr, ha.look _ _ h1, ha.look _ _ h2, ha.look _ _ h3, ha.look _ _ h4]) h
end
end Go.Proofs.Ytkehmehodgcdfaa.Vb
