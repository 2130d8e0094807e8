/- Rules of a walk, second part: what operations leave of the memory; new blocks, stores, calls, appends; regions whose order is open. No program is named here. -/
import Derived.Test.YtkehmehodgcdfaaVb
import Derived.Deep.AppendSrc
import Derived.Laws.CopyRow
import Derived.Laws.MakeOwn
import Derived.Below
namespace Go.Proofs.Ytkehmehodgcdfaa.Vb
open Go.RowKit

/-! ### What stays -/
/-- Of the blocks that stood in w all but those of S are as they were. -/
structure Keep (S : Nat → Prop) (w w' : World) : Prop where
  os : w'.os = w.os
  output : w'.output = w.output
  tape : w'.tape = w.tape
  size : w.heap.size ≤ w'.heap.size
  block : ∀ k, k < w.heap.size → ¬ S k → w'.heap[k]? = w.heap[k]?
def Non : Nat → Prop := fun _ => False
theorem non_not (k : Nat) : ¬ Non k := fun h => h
theorem Keep.refl (S : Nat → Prop) (w : World) : Keep S w w := ⟨rfl, rfl, rfl, Nat.le_refl _, fun _ _ _ => rfl⟩
theorem Keep.mono {S T : Nat → Prop} {w w' : World} (h : Keep S w w') (hS : ∀ k, k < w.heap.size → S k → T k) : Keep T w w' := ⟨h.os, h.output, h.tape, h.size, fun k hk hT => h.block k hk (fun hs => hT (hS k hk hs))⟩
theorem Keep.any {S : Nat → Prop} {w w' : World} (h : Keep Non w w') : Keep S w w' := h.mono (fun _ _ f => f.elim)
theorem Keep.trans {S T U : Nat → Prop} {a b c : World} (h : Keep S a b) (k : Keep T b c) (hU : ∀ i, i < a.heap.size → S i ∨ T i → U i) : Keep U a c :=
  ⟨k.os.trans h.os, k.output.trans h.output, k.tape.trans h.tape, Nat.le_trans h.size k.size, fun i hi hn => (k.block i (Nat.lt_of_lt_of_le hi h.size) (fun ht => hn (hU i hi (.inr ht)))).trans (h.block i hi (fun hs => hn (hU i hi (.inl hs))))⟩
theorem Keep.then {S : Nat → Prop} {a b c : World} (h : Keep S a b) (k : Keep S b c) : Keep S a c := h.trans k (fun _ _ h => h.elim id id)
/-- What is written later lies in blocks that came later. -/
theorem Keep.new {S T : Nat → Prop} {a b c : World} (h : Keep S a b) (k : Keep T b c) (hT : ∀ i, T i → a.heap.size ≤ i) : Keep S a c := h.trans k (fun i hi h => h.elim id (fun ht => absurd (hT i ht) (by omega)))
theorem Keep.of_grownBy {w w' : World} {row : Option Nat} (h : w.grownBy w' row) : Keep (fun k => some k = row) w w' := ⟨h.os, h.output, h.tape, h.size, fun k hk hn => h.block k hk hn⟩
theorem Keep.of_below {w w' : World} (h : Below w.heap.size w w') : Keep Non w w' := ⟨h.os, h.output, h.tape, h.size, fun k hk _ => h.block k hk⟩
theorem Keep.below {w w' : World} (h : Keep Non w w') : Below w.heap.size w w' := ⟨h.os, h.tape, h.output, h.size, fun k hk => h.block k hk (non_not k)⟩
theorem lt_of_heap {w : World} {b : Nat} {o : Obj} (h : w.heap[b]? = some o) : b < w.heap.size := (Array.getElem?_eq_some_iff.1 h).1
theorem lt_of_cell {w : World} {b o : Nat} {v : Value} (h : w.cell? ⟨b, o, none⟩ = some v) : b < w.heap.size := World.block_lt_of_cell? w _ h
theorem Keep.heap {S : Nat → Prop} {w w' : World} (h : Keep S w w') {b : Nat} {o : Obj} (hb : w.heap[b]? = some o) (hn : ¬ S b) : w'.heap[b]? = some o := (h.block b (lt_of_heap hb) hn).trans hb
theorem Keep.cell {S : Nat → Prop} {w w' : World} (h : Keep S w w') {b o : Nat} {v : Value} (hc : w.cell? ⟨b, o, none⟩ = some v) (hn : ¬ S b) : w'.cell? ⟨b, o, none⟩ = some v :=
  (World.cell?_of_block (w := w) (a := ⟨b, o, none⟩) (h.block b (lt_of_cell hc) hn)).trans hc
theorem Keep.cells {S : Nat → Prop} {w w' : World} (h : Keep S w w') {b o : Nat} {cs : List Value} (hc : Cells w b o cs) (hn : ¬ S b) : Cells w' b o cs := fun j v hj => h.cell (hc j v hj) hn
theorem Keep.keptBut {w w' : World} (h : Keep Non w w') (may : MemPlace → Prop) : w.keptBut w' may := by
  refine ⟨h.os, h.output, fun i hi => ?_⟩
  rw [h.block i hi (non_not i)]
  split <;> simp_all
theorem Keep.frozen {w w' : World} (h : Keep Non w w') (a : Addr) (ha : a.block < w.heap.size) : w'.frozen? a = w.frozen? a := World.frozen?_of_block (w := w) (h.block a.block ha (non_not _))

/-- A whole block: its cells; none is frozen. -/
def Row (w : World) (b : Nat) (t : TypeId) (cs : List Value) : Prop := w.heap[b]? = some (.cells cs.toArray t (0, 0))
theorem Row.lt {w : World} {b : Nat} {t : TypeId} {cs : List Value} (h : Row w b t cs) : b < w.heap.size := lt_of_heap h
theorem Row.cell {w : World} {b : Nat} {t : TypeId} {cs : List Value} (h : Row w b t cs) {j : Nat} {v : Value} (hj : cs[j]? = some v) : w.cell? ⟨b, j, none⟩ = some v := by
  simp [World.cell?, (show w.heap[b]? = _ from h), hj]
theorem Row.cells {w : World} {b : Nat} {t : TypeId} {cs : List Value} (h : Row w b t cs) (o : Nat) (ds : List Value) (hd : (cs.drop o).take ds.length = ds) : Cells w b o ds := fun j v hj => by
  refine h.cell ?_
  have hlt : j < ds.length := (List.getElem?_eq_some_iff.1 hj).1
  rw [← hd, List.getElem?_take_of_lt hlt, List.getElem?_drop] at hj
  exact hj
theorem Row.keep {S : Nat → Prop} {w w' : World} (k : Keep S w w') {b : Nat} {t : TypeId} {cs : List Value} (h : Row w b t cs) (hn : ¬ S b) : Row w' b t cs := k.heap h hn
/-- A new block at the end. -/
structure New (w w' : World) (b : Nat) (t : TypeId) (cs : List Value) : Prop where
  at_ : b = w.heap.size
  keep : Keep Non w w'
  size : w'.heap.size = w.heap.size + 1
  row : Row w' b t cs
theorem New.of_alloc (w : World) (cs : List Value) (t : TypeId) : New w (w.alloc (.cells cs.toArray t)) w.heap.size t cs :=
  ⟨rfl, ⟨rfl, rfl, rfl, by simp, fun k hk _ => Below.heap_alloc _ _ _ hk⟩, by simp, heap_alloc_new w _⟩
theorem New.of_alloc' (w : World) (cs : Array Value) (t : TypeId) : New w (w.alloc (.cells cs t)) w.heap.size t cs.toList := by
  have := New.of_alloc w cs.toList t
  simpa using this
/-- A block is written. -/
structure Put (w w' : World) (b : Nat) (t : TypeId) (cs : List Value) : Prop where
  keep : Keep (fun k => k = b) w w'
  size : w'.heap.size = w.heap.size
  row : Row w' b t cs
theorem Put.of_setRow {w : World} {b : Nat} {t : TypeId} {cs : Array Value} (h : w.heap[b]? = some (.cells cs t (0, 0))) (ds : List Value) : Put w (w.setRow b ds.toArray) b t ds := by
  refine ⟨⟨rfl, rfl, rfl, by simp [World.setRow], fun k _ hk => ?_⟩, by simp [World.setRow], ?_⟩
  · simp only [World.setRow, Array.getElem?_modify]
    rw [if_neg (by intro e; exact hk e.symm)]
  · have hlt := lt_of_heap h
    have h1 : w.heap[b] = .cells cs t (0, 0) := by simpa [Array.getElem?_eq_getElem hlt] using h
    simp [Row, World.setRow, Array.getElem?_modify, h]
/-- cs with ds laid from o on. -/
def splice (cs : List Value) (o : Nat) (ds : List Value) : List Value := cs.take o ++ ds ++ cs.drop (o + ds.length)
theorem splice_length {cs : List Value} {o : Nat} {ds : List Value} (h : o + ds.length ≤ cs.length) : (splice cs o ds).length = cs.length := by
  simp [splice]; omega
theorem splice_get {cs : List Value} {o : Nat} {ds : List Value} (h : o + ds.length ≤ cs.length) (j : Nat) : (splice cs o ds)[j]? = if o ≤ j ∧ j < o + ds.length then ds[j - o]? else cs[j]? := by
  unfold splice
  by_cases h1 : j < o
  · rw [if_neg (by omega), List.getElem?_append_left (by simp; omega), List.getElem?_append_left (by simp; omega)]
    simp [h1]
  · by_cases h2 : j < o + ds.length
    · rw [if_pos ⟨by omega, h2⟩, List.getElem?_append_left (by simp; omega), List.getElem?_append_right (by simp; omega)]
      simp
      congr 1
      omega
    · rw [if_neg (by omega), List.getElem?_append_right (by simp; omega)]
      simp
      congr 1
      omega
theorem storeCells_run {P : Program} {w : World} {b : Nat} {t : TypeId} {cs : List Value} (h : Row w b t cs) {o : Nat} {ds : List Value} (hl : o + ds.length ≤ cs.length) (h1 : ∀ v ∈ ds, v.oneCell' = true) :
    ∃ w', (storeCells ⟨b, o, none⟩ ds).run P w = .ok () w' ∧ Put w w' b t (splice cs o ds) := by
  have hr := run_storeCells_at (P := P) b o t ds 0 cs.toArray w h (by simpa using hl) h1
  exact ⟨_, hr, by simpa [splice] using Put.of_setRow h (splice cs o ds)⟩
theorem oneCell_cells {v : Value} (h : v.oneCell' = true) : v.cells = #[v] := by cases v <;> simp [Value.oneCell', Value.cells] at h ⊢

/-! ### Literals -/
/-- The parts of a literal, numbered from k on. -/
def idx : Nat → List Value → List (Nat × Value)
  | _, [] => []
  | k, v :: r => (k, v) :: idx (k + 1) r
def flat (vs : List Value) : List Value := vs.flatMap fun v => v.cells.toList
theorem foldl_set_get (off : Nat) : ∀ (l : List Value) (k : Nat) (arr : Array Value), off + k + l.length ≤ arr.size →
    ((l.zipIdx k).foldl (fun cs p => cs.setIfInBounds (off + p.2) p.1) arr).size = arr.size ∧
    ∀ j : Nat, ((l.zipIdx k).foldl (fun cs p => cs.setIfInBounds (off + p.2) p.1) arr)[j]? = if off + k ≤ j ∧ j < off + k + l.length then l[j - (off + k)]? else arr[j]?
  | [], k, arr, _ => ⟨rfl, fun j => by simp; intro h1 h2; omega⟩
  | v :: r, k, arr, h => by
    simp only [List.length_cons] at h
    obtain ⟨h1, h2⟩ := foldl_set_get off r (k + 1) (arr.setIfInBounds (off + k) v) (by simp; omega)
    simp only [List.zipIdx_cons, List.foldl_cons]
    refine ⟨by rw [h1]; simp, fun j => ?_⟩
    rw [h2]
    by_cases hj : j = off + k
    · subst hj
      rw [if_neg (by omega), if_pos (by simp)]
      have : off + k < arr.size := by omega
      simp [this]
    · by_cases h3 : off + (k + 1) ≤ j ∧ j < off + (k + 1) + r.length
      · rw [if_pos h3, if_pos (by simp; omega)]
        rw [show j - (off + k) = (j - (off + (k + 1))) + 1 by omega]
        simp
      · rw [if_neg h3, if_neg (by simp; omega), Array.getElem?_setIfInBounds_ne (by omega)]
theorem foldl_set (off : Nat) (l : List Value) (arr : Array Value) (h : off + l.length ≤ arr.size) :
    (l.zipIdx.foldl (fun cs p => cs.setIfInBounds (off + p.2) p.1) arr) = (splice arr.toList off l).toArray := by
  obtain ⟨h1, h2⟩ := foldl_set_get off l 0 arr (by omega)
  apply Array.ext_getElem?
  intro j
  rw [h2 j]
  simp only [Nat.add_zero, List.getElem?_toArray]
  rw [splice_get (by simpa using h) j]
  simp
theorem fill_all (sz : Nat) : ∀ (vs : List Value) (k : Nat) (arr : Array Value), (∀ v ∈ vs, v.cells.size = sz) → (k + vs.length) * sz = arr.size →
    Instr.fill (fun i => some (i * sz, sz)) arr (idx k vs) = some (arr.toList.take (k * sz) ++ flat vs).toArray
  | [], k, arr, _, h => by
    simp only [List.length_nil, Nat.add_zero] at h
    have h2 : arr.toList.take arr.size = arr.toList := List.take_of_length_le (by simp)
    simp [idx, Instr.fill, flat, h, h2]
  | v :: r, k, arr, hv, h => by
    have h1 : v.cells.size = sz := hv v (by simp)
    have h3 : k * sz + sz ≤ arr.size := by
      rw [← h, List.length_cons]
      have : (k + 1) * sz ≤ (k + (r.length + 1)) * sz := Nat.mul_le_mul_right sz (by omega)
      rw [Nat.add_mul, Nat.one_mul] at this
      omega
    have hne : ¬ (v.cells.size ≠ sz ∨ arr.size < k * sz + v.cells.size) := by rw [h1]; omega
    have hf : (v.cells.zipIdx.foldl (fun cs (x : Value × Nat) => match x with | (c, j) => cs.setIfInBounds (k * sz + j) c) arr) = (splice arr.toList (k * sz) v.cells.toList).toArray := by
      have := foldl_set (k * sz) v.cells.toList arr (by simpa [h1] using h3)
      rw [← this, ← Array.foldl_toList, Array.toList_zipIdx]
    have hsp : (splice arr.toList (k * sz) v.cells.toList).length = arr.size := by
      rw [splice_length (by simpa [h1] using h3)]; simp
    have ih := fill_all sz r (k + 1) (splice arr.toList (k * sz) v.cells.toList).toArray (fun u hu => hv u (by simp [hu])) (by simp only [List.size_toArray, hsp]; rw [← h, List.length_cons, show k + 1 + r.length = k + (r.length + 1) by omega])
    simp only [idx, Instr.fill]
    rw [if_neg (by simp [h1]; omega), hf, ih]
    have h5 : (k + 1) * sz = k * sz + v.cells.toList.length := by rw [Nat.add_mul, Nat.one_mul]; simp [h1]
    have h6 : (splice arr.toList (k * sz) v.cells.toList).take ((k + 1) * sz) = arr.toList.take (k * sz) ++ v.cells.toList := by
      unfold splice
      rw [h5, List.take_append_of_le_length (by simp; omega)]
      exact List.take_of_length_le (by simp; omega)
    simp only [h6, flat, List.flatMap_cons, List.append_assoc]

/-! ### Operations that leave a world -/
/-- Whatever value the operation gives and whatever world it leaves: R. -/
structure St (P : Program) (n : Nat) (L : FL) (w : World) (op : Op) (ty : TypeId) (R : Value → World → Prop) : Prop where
  mk :: (out : ∀ a, Fr n L a → ∀ dst pos after guard (K : Act → World → Prop) (Q : Exit → Act → World → Prop), (∀ v w', R v w' → K (a.put dst v) w') → Oper.wp P ⟨dst, op, ty, pos, after, guard⟩ a w K Q)
section
variable {P : Program} {n : Nat} {L : FL} {w : World} {ty : TypeId}
theorem St.run {op : Op} {R : Value → World → Prop} (h : ∀ a, Fr n L a → ∀ dst pos after guard, ∃ v w', (execOp a.eval ⟨dst, op, ty, pos, after, guard⟩).run P w = .ok (.value v) w' ∧ R v w') : St P n L w op ty R := ⟨fun a ha dst pos after guard K Q hK => by
  obtain ⟨v, w', hr, hR⟩ := h a ha dst pos after guard
  unfold Oper.wp
  rw [hr, Oper.upon_value]
  exact hK v w' hR⟩
theorem St.skip {op : Op} {R : World → Prop} (h : ∀ a, Fr n L a → ∀ dst pos after guard, ∃ w', (execOp a.eval ⟨dst, op, ty, pos, after, guard⟩).run P w = .ok .skip w' ∧ R w') : St P n L w op ty (fun _ w' => R w') := ⟨fun a ha dst pos after guard K Q hK => by
  obtain ⟨w', hr, hR⟩ := h a ha dst pos after guard
  unfold Oper.wp
  rw [hr, Oper.upon_skip]
  exact hK undef w' hR⟩
theorem St.box {t : TypeId} {x : Operand} {v : Value} (hx : ev L x = some v) : St P n L w (.box t x) ty (fun r w' => ∃ b, r = .pointer (some ⟨b, 0, none⟩) ∧ New w w' b t v.cells.toList) :=
  St.run fun a ha dst pos after guard => ⟨_, _, by simp [execOp, Instr.box, ha.eval hx, newVar, newRow], _, rfl, New.of_alloc' w v.cells t⟩
theorem St.alloc {t : TypeId} {z : Value} {sz bytes : Nat} (ht : Ty P t z sz bytes) : St P n L w (.alloc t) ty (fun r w' => ∃ b, r = .pointer (some ⟨b, 0, none⟩) ∧ New w w' b t z.cells.toList) :=
  St.run fun a ha dst pos after guard => ⟨_, _, by simp [execOp, Instr.alloc, ht.zero_, newVar, newRow], _, rfl, New.of_alloc' w z.cells t⟩
theorem St.store {t : TypeId} {x y : Operand} {z v : Value} {sz bytes b o : Nat} {rt : TypeId} {cs : List Value} (ht : Ty P t z sz bytes) (hx : ev L x = some (.pointer (some ⟨b, o, none⟩))) (hy : ev L y = some v) (hv : v.cells.size = sz)
    (hr : Row w b rt cs) (hl : o + sz ≤ cs.length) (h1 : ∀ u ∈ v.cells.toList, u.oneCell' = true) : St P n L w (.store t x y) ty (fun _ w' => Put w w' b rt (splice cs o v.cells.toList)) :=
  St.skip fun a ha dst pos after guard => by
    obtain ⟨w', hs, hp⟩ := storeCells_run (P := P) hr (o := o) (ds := v.cells.toList) (by simpa [hv] using hl) h1
    exact ⟨w', by simp [execOp, Instr.storeAt, Instr.sureAddr, ha.eval hx, ha.eval hy, storeVar, ht.sizeOf_, hv, hs], hp⟩
/-- A function that has a body. -/
def Goes (P : Program) (f : FuncId) : Prop := ∀ (xs : Array Value) (w : World), (callFunc f xs).run P w = .ok (.enter f xs) w
theorem Goes.of {f : FuncId} {fn : Func} {c : Code} (hf : P.funcs[f]? = some fn) (hb : fn.body = some c) (hn : (fn.name == "runtime.NumGoroutine") = false) : Goes P f := fun xs w => by
  have hn' : ¬ fn.name = "runtime.NumGoroutine" := by simpa using hn
  simp [callFunc, hf, hb, hn']
theorem St.call {f : FuncId} {xs : List Operand} {ats : Array TypeId} {vs : List Value} {R : Value → World → Prop} (hf : Goes P f) (hx : evs L xs = some vs) (hs : Meets P f vs.toArray w R) :
    St P n L w (.call { callee := .value (.func f), args := xs.toArray, argTypes := ats }) ty R := ⟨fun a ha dst pos after guard K Q hK => by
  unfold Oper.wp
  rw [execOp_call_go]
  have h1 : (#[] ++ xs.toArray.map a.eval ++ #[] : Array Value) = vs.toArray := by
    have := ha.evals hx
    simp [this]
  rw [h1, hf, Oper.upon_enter]
  refine hs.out.mono fun e w' he => ?_
  cases e with
  | returned v => exact hK v w' he
  | _ => exact he.elim⟩
/-- What a literal slice of k cells is filled with at first. -/
def sliceZero (z : Value) (k : Nat) : Array Value := if k = 0 then #[] else z.cells
theorem St.buildSlice {t e : TypeId} {z : Value} {sz bytes len : Nat} {ps : List (Nat × Operand)} {pv : List (Nat × Value)} {cs : List Value} (ht : P.underlying t = some (.slice e)) (he : Ty P e z sz bytes) (hlen : Nat.ble (len * sz) 16777216 = true) (hp : evp L ps = some pv)
    (hc : Instr.fill (fun i => some (i * sz, sz)) ((Array.range (len * sz)).map fun i => (sliceZero z (len * sz))[i % (sliceZero z (len * sz)).size]!) pv = some cs.toArray) :
    St P n L w (.buildSlice t len ps.toArray) ty (fun r w' => ∃ b, r = .slice (some ⟨b, 0, none⟩) len len ∧ New w w' b e cs) := by
  refine St.run fun a ha dst pos after guard => ⟨_, _, ?_, w.heap.size, rfl, New.of_alloc w cs e⟩
  have hlen' : ¬ (16777216 < len * sz) := by have := Nat.le_of_ble_eq_true hlen; omega
  by_cases h0 : len * sz = 0
  · simp only [sliceZero, h0, if_true] at hc
    simp [execOp, Instr.buildSlice, run_underlying ht, he.sizeOf_, h0, ha.evalp hp, newRow] at hc ⊢
    simp [hc]
  · simp only [sliceZero, h0, if_false] at hc
    simp [execOp, Instr.buildSlice, run_underlying ht, he.sizeOf_, he.zero_, h0, hlen', ha.evalp hp, newRow, hc]
end

section
variable {P : Program} {n : Nat} {L : FL} {w : World} {ops : Array Oper} {Q : Exit → Act → World → Prop} {rest : List Oper}
theorem W.st {d : Nat} {op : Op} {ty : TypeId} {pos : String} {after : Array Edge} {g : Option (Nat × Bool)} {R : Value → World → Prop} (hg : on ops L g = some true) (hd : Nat.blt d n = true) (hs : St P n L w op ty R)
    (h : ∀ v w', R v w' → W P n ops Q rest ((d, v) :: L) w') : W P n ops Q (⟨some d, op, ty, pos, after, g⟩ :: rest) L w := ⟨fun a ha => wpList_step (fun K hK => by
  rw [wanted_of (o := ⟨some d, op, ty, pos, after, g⟩) ha hg, if_pos rfl]
  exact hs.out a ha _ _ _ _ K Q (fun v w' hR => hK _ _ ((h v w' hR).out _ (ha.put v hd))))⟩
theorem W.st0 {op : Op} {ty : TypeId} {pos : String} {after : Array Edge} {g : Option (Nat × Bool)} {R : Value → World → Prop} (hg : on ops L g = some true) (hs : St P n L w op ty R)
    (h : ∀ v w', R v w' → W P n ops Q rest L w') : W P n ops Q (⟨none, op, ty, pos, after, g⟩ :: rest) L w := ⟨fun a ha => wpList_step (fun K hK => by
  rw [wanted_of (o := ⟨none, op, ty, pos, after, g⟩) ha hg, if_pos rfl]
  exact hs.out a ha _ _ _ _ K Q (fun v w' hR => hK _ _ ((h v w' hR).out _ ha)))⟩
/-- An operation that hangs on one that was left out. -/
theorem W.offU {d j t : Nat} {want : Bool} {op : Op} {ty : TypeId} {pos : String} {after : Array Edge} (hj : (ops[j]?).bind (·.dst) = some t) (hv : Vb.get L t = some undef) (hd : Nat.blt d n = true)
    (h : W P n ops Q rest ((d, undef) :: L) w) : W P n ops Q (⟨some d, op, ty, pos, after, some (j, want)⟩ :: rest) L w := ⟨fun a ha => wpList_step (fun K hK => by
  have hw : Region.wanted ⟨some d, op, ty, pos, after, some (j, want)⟩ (yielded ops a.tmps) = false := by
    unfold Region.wanted yielded
    simp only [hj, Option.bind_some, ha.look t _ hv]
    rfl
  rw [hw, if_neg (by simp)]
  exact hK _ _ (h.out _ (ha.put undef hd)))⟩
end

/-! ### append, make -/
section
variable {P : Program} {n : Nat} {L : FL} {w : World} {ty : TypeId}
theorem own_keep {S : Nat → Prop} {w w' : World} (k : Keep S w w') {base : Nat} {e : TypeId} {sz m : Nat} {v : Value} {xs : List Value} (h : w.ownsRow base e sz v m xs) (hn : ∀ b, v.ownBlock = some b → ¬ S b) : w'.ownsRow base e sz v m xs := by
  obtain ⟨h1, h2⟩ := h
  refine ⟨h1, ?_⟩
  rcases h2 with h2 | ⟨g, cap, cur, hv, hg, hh, r⟩
  · exact .inl h2
  · exact .inr ⟨g, cap, cur, hv, hg, k.heap hh (hn g (by rw [hv]; rfl)), r⟩
theorem St.append {s x : Operand} {t e : TypeId} {z : Value} {sz bytes : Nat} (base : Nat) {v : Value} {m1 : Nat} {xs : List Value} {b o m c : Nat} (news : List Value) (ht : P.underlying t = some (.slice e)) (he : Ty P e z sz bytes) (hz : z.cells.size = sz) (hsz : 0 < sz)
    (hs : ev L s = some v) (hown : w.ownsRow base e sz v m1 xs) (hx : ev L x = some (.slice (some ⟨b, o, none⟩) m c)) (hnews : Cells w b o news) (hl : news.length = m * sz) (h1 : ∀ u ∈ news, u.oneCell' = true)
    (hbytes : (m1 + m) * bytes ≤ 140737488355328) (hby : 0 < bytes) (hbase : base ≤ w.heap.size) :
    St P n L w (.call { callee := .builtin .append, args := #[s, x], argTypes := #[t, t] }) ty (fun v' w' => w'.ownsRow base e sz v' (m1 + m) (xs ++ news) ∧ Keep (fun k => some k = v.ownBlock) w w' ∧ (v'.ownBlock = v.ownBlock ∨ v'.ownBlock = some w.heap.size)) :=
  St.run fun a ha dst pos after guard => by
    obtain ⟨i, hi, hz0, hz1, hz2⟩ := he.get
    have hlen : m1 + m ≤ 140737488355328 := Nat.le_trans (Nat.le_mul_of_pos_right _ hby) hbytes
    obtain ⟨v', w', hr, h2, h3, _, h5⟩ := run_append_own_at (P := P) w base t ty e i z sz bytes ht hi hz0 hz1 hz2 hz hsz v m1 xs hown ⟨b, o, none⟩ m c news hl
      (fun j u hj => by rw [add_addr]; exact hnews j u hj) h1 (by simp only [maxLen]; omega) hbytes hbase
    exact ⟨v', w', by simp [execOp, resolve, invoke, builtin, ha.eval hs, ha.eval hx, hr], h2, Keep.of_grownBy h3, h5⟩
/-- Nothing is appended. -/
theorem Y.appendNone {S : World → Prop} {s x : Operand} {t e : TypeId} {z : Value} {sz bytes : Nat} {A A' : Option Addr} {m c c' : Nat} (ht : P.underlying t = some (.slice e)) (he : Ty P e z sz bytes) (hs : ev L s = some (.slice A m c)) (hx : ev L x = some (.slice A' 0 c')) (hmc : m ≤ c) :
    Y P n L S (.call { callee := .builtin .append, args := #[s, x], argTypes := #[t, t] }) ty (.slice A m c) := ⟨fun g hg w _ dst pos after guard => by
  obtain ⟨i, hi, hz0, hz1, hz2⟩ := he.get
  cases A <;> cases A' <;> simp [execOp, resolve, invoke, builtin, hg.eval hs, hg.eval hx, Builtin.append_, run_underlying ht, sizeOf, typeInfo, hi, Builtin.lenOf, Builtin.firstCells, hmc, storeCells, loadCells, loadCellsFrom]⟩
/-- make([]T, 0, k). -/
theorem St.make0 {t e : TypeId} {z : Value} {sz bytes : Nat} {x y : Operand} {k1 k2 : IntKind} (base c : Nat) {ci : Int} (ht : P.underlying t = some (.slice e)) (he : Ty P e z sz bytes) (hx : ev L x = some (.int k1 0)) (hy : ev L y = some (.int k2 ci)) (hc : ci = (c : Int))
    (hbytes : bytes * c ≤ 281474976710656) (h63 : c ≤ maxLen) (hbase : base ≤ w.heap.size) :
    St P n L w (.makeSlice t x y) ty (fun v' w' => w'.ownsRow base e sz v' 0 [] ∧ Keep Non w w' ∧ v' = .slice (some ⟨w.heap.size, 0, none⟩) 0 c) :=
  St.run fun a ha dst pos after guard => by
    subst hc
    obtain ⟨i, hi, hz0, hz1, hz2⟩ := he.get
    subst hz2
    obtain ⟨w', hr, h2, h3⟩ := run_make_own (P := P) w base t e i z sz ht hi hz0 hz1 k1 k2 c hbytes h63 hbase
    exact ⟨_, w', by simp [execOp, ha.eval hx, ha.eval hy, hr], h2, (Keep.of_grownBy h3).mono (fun k _ h => by simp at h), rfl⟩
end

/-! ### A region whose order is open -/
/-- Whatever order is picked from here on; S stays behind every operation but those of ds. -/
def wpS (P : Program) (ops : Array Oper) (Q : Exit → Act → World → Prop) (S : World → Prop) (ds : List Nat) : Nat → Array Bool → Act → World → Prop
  | 0, l, a, w => Region.ready .any ops l = [] ∧ Q .normal a w
  | k + 1, l, a, w => (Region.ready .any ops l = [] → Q .normal a w) ∧ ∀ i ∈ Region.ready .any ops l, wpOp P ops Q i (fun a' w' => (ds.contains i = false → S w → S w') ∧ wpS P ops Q S ds k (l.setIfInBounds i true) a' w') a w
section
variable {P : Program} {ops : Array Oper} {Q : Exit → Act → World → Prop} {S : World → Prop} {ds : List Nat}
theorem wpAny_of_wpS : ∀ (k : Nat) (l : Array Bool) (a : Act) (w : World), wpS P ops Q S ds k l a w → wpAny P .any ops Q k l a w
  | 0, _, _, _, h => h
  | k + 1, _, _, _, h => ⟨h.1, fun i hi => wpOp_mono (fun a' w' h' => wpAny_of_wpS k _ a' w' h'.2) (h.2 i hi)⟩
/-- d comes behind i, whatever order is picked. -/
inductive Reach (ops : Array Oper) (i : Nat) : Nat → Prop
  | one {d : Nat} {o : Oper} {e : Edge} : ops[d]? = some o → e ∈ o.after → Region.binds .any e = true → e.on = i → Reach ops i d
  | step {d : Nat} {o : Oper} {e : Edge} : ops[d]? = some o → e ∈ o.after → Region.binds .any e = true → Reach ops i e.on → Reach ops i d
/-- What is listed: all that it waits for is. -/
def ClosedL (ops : Array Oper) (l : Array Bool) : Prop := ∀ (j : Nat) (o : Oper), ops[j]? = some o → l.getD j false = true → ∀ e ∈ o.after, Region.binds .any e = true → l.getD e.on false = true
theorem Reach.listed {i : Nat} {l : Array Bool} (hc : ClosedL ops l) : ∀ {d : Nat}, Reach ops i d → l.getD d false = true → l.getD i false = true := by
  intro d h
  induction h with
  | one ho he hb hi => intro hl; subst hi; exact hc _ _ ho hl _ he hb
  | step ho he hb _ ih => intro hl; exact ih (hc _ _ ho hl _ he hb)
theorem Reach.ready {i d : Nat} {l : Array Bool} (hc : ClosedL ops l) (h : Reach ops i d) (hr : d ∈ Region.ready .any ops l) : l.getD i false = true := by
  obtain ⟨_, o', ho', hall⟩ := mem_ready.1 hr
  cases h with
  | one ho he hb hi => rw [ho] at ho'; cases ho'; subst hi; exact hall _ he hb
  | step ho he hb h => rw [ho] at ho'; cases ho'; exact h.listed hc (hall _ he hb)
theorem ClosedL.set {j : Nat} {l : Array Bool} (hc : ClosedL ops l) (hr : j ∈ Region.ready .any ops l) : ClosedL ops (l.setIfInBounds j true) := fun k o ho hk e he hb => by
  obtain ⟨_, o', ho', hall⟩ := mem_ready.1 hr
  refine getD_set_true ?_
  by_cases hjk : j = k
  · subst hjk
    rw [ho] at ho'; cases ho'
    exact hall e he hb
  · rw [getD_set_ne false hjk] at hk
    exact hc k o ho hk e he hb
theorem unlisted_of_ready {i : Nat} {l : Array Bool} (hr : i ∈ Region.ready .any ops l) : l.getD i false = false := by
  have h0 := (mem_ready.1 hr).1
  rcases Nat.lt_or_ge i l.size with h' | h'
  · simpa [h'] using h0
  · simp [Array.getElem?_eq_none h']
/-- Number i may be taken first: it yields v in every world that meets T; T is S and what is of ds waits for i, or T says nothing. -/
theorem wpS_first {T : World → Prop} {i : Nat} {oi : Oper} {v : Value} (hi : ops[i]? = some oi) (hsel : ∀ (j : Nat) (o : Oper) cs b, ops[j]? = some o → o.op ≠ .select cs b)
    (hQ : ∀ c a w, Q (.panic c) (a.put oi.dst v) w → Q (.panic c) a w) (hT : (∀ w, T w) ∨ (∀ w, S w → T w) ∧ ∀ d, ds.contains d = true → Reach ops i d) :
    ∀ (k : Nat) (l : Array Bool) (a : Act) (w : World), ((∀ w, T w) ∨ ClosedL ops l) →
      (∀ j oj, ops[j]? = some oj → j ≠ i → l.getD j true = false → (∀ e ∈ oj.after, Region.binds .any e = true → e.on ≠ i) → oi.apart ops oj = true) →
      i ∈ Region.ready .any ops l → YieldsIf P ops T oi v a → S w ∨ (∀ w, T w) →
      wpS P ops Q S ds k (l.setIfInBounds i true) (a.put oi.dst v) w → wpS P ops Q S ds (k + 1) l a w := by
  have tw : ∀ w, S w ∨ (∀ w, T w) → T w := fun w h => by
    rcases h with h | h
    · rcases hT with hT | hT
      · exact hT w
      · exact hT.1 w h
    · exact h w
  intro k
  induction k with
  | zero =>
    intro l a w _ _ hr hy hS H
    refine ⟨fun h => (by rw [h] at hr; cases hr), fun j hj => ?_⟩
    by_cases hji : j = i
    · subst hji; exact hy.wpOp hi (tw w hS) ⟨fun _ h => h, H⟩
    · have := ready_mono hj hji
      rw [H.1] at this
      cases this
  | succ k ih =>
    intro l a w hcl hfree hr hy hS H
    refine ⟨fun h => (by rw [h] at hr; cases hr), fun j hj => ?_⟩
    by_cases hji : j = i
    · subst hji; exact hy.wpOp hi (tw w hS) ⟨fun _ h => h, H⟩
    · have h1 := H.2 j (ready_mono hj hji)
      obtain ⟨hjun, oj, hoj, hall⟩ := mem_ready.1 hj
      have hun := unlisted_of_ready hr
      have hnot : ∀ e ∈ oj.after, Region.binds .any e = true → e.on ≠ i := fun e he hb heq => by
        have h2 := hall e he hb
        rw [heq, hun] at h2
        cases h2
      have h2 := wpOp_putIf hoj (hfree j oj hoj hji hjun hnot) (fun cs b => hsel i oi cs b hi) (fun cs b => hsel j oj cs b hoj) hQ hy h1
      have hfree' : ∀ m ok, ops[m]? = some ok → m ≠ i → (l.setIfInBounds j true).getD m true = false →
          (∀ e ∈ ok.after, Region.binds .any e = true → e.on ≠ i) → oi.apart ops ok = true := fun m ok hm hmi hun hno => by
        refine hfree m ok hm hmi ?_ hno
        by_cases hjm : j = m
        · subst hjm; exact hjun
        · rw [getD_set_ne true hjm] at hun; exact hun
      refine wpOp_mono (fun a' w' h3 => ⟨h3.2.1, ?_⟩) h2
      have hS' : S w' ∨ (∀ w, T w) := by
        rcases hT with hT | hT
        · exact .inr hT
        · rcases hS with hS | hS
          · rcases hcl with hcl | hcl
            · exact .inr hcl
            · cases hd : ds.contains j with
              | true =>
                have := (hT.2 j hd).ready hcl hj
                rw [hun] at this
                cases this
              | false => exact .inl (h3.2.1 hd hS)
          · exact .inr hS
      refine ih (l.setIfInBounds j true) a' w' (hcl.imp id (fun h => h.set hj)) hfree' (ready_mono hr (Ne.symm hji)) h3.1 hS' ?_
      rw [Array.setIfInBounds_comm _ _ hji]
      exact h3.2.2
end

structure D (P : Program) (n : Nat) (ops : Array Oper) (Q : Exit → Act → World → Prop) (S : World → Prop) (ds : List Nat) (fuel : Nat) (l : Array Bool) (L : FL) (w : World) : Prop where
  mk :: (out : ∀ a, Fr n L a → wpS P ops Q S ds fuel l a w)
/-- What is owed at a panic does not hang on the slots. -/
class PanicOk (Q : Exit → Act → World → Prop) : Prop where
  mk :: (out : ∀ c (a : Act) d v w, Q (.panic c) (Act.put a d v) w → Q (.panic c) a w)
instance {K : Act → World → Prop} {Q : Exit → Act → World → Prop} [h : PanicOk Q] : PanicOk (Exit.then K Q) := ⟨fun c a d v w hq => h.out c a d v w hq⟩
instance {id : Nat} {Q : Exit → Act → World → Prop} [h : PanicOk Q] : PanicOk (Exit.inBlock id Q) := ⟨fun c a d v w hq => h.out c a d v w hq⟩
instance {P : Program} {fn : Func} {R : Ending → World → Prop} : PanicOk (bodyPost P fn R) := ⟨fun c a d v w hq => by cases d <;> exact hq⟩
/-- Does d wait for number i? -/
def waitsB (ops : Array Oper) (i : Nat) : Nat → Nat → Bool
  | 0, _ => false
  | k + 1, d => match ops[d]? with
    | some o => (o.after.any fun e => Region.binds .any e && e.on == i) || o.after.any fun e => Region.binds .any e && waitsB ops i k e.on
    | none => false
theorem waitsB_spec {ops : Array Oper} {i : Nat} : ∀ {k d : Nat}, waitsB ops i k d = true → Reach ops i d
  | 0, _, h => by cases h
  | k + 1, d, h => by
    unfold waitsB at h
    cases ho : ops[d]? with
    | none => rw [ho] at h; cases h
    | some o =>
      rw [ho] at h
      rcases (Bool.or_eq_true _ _).mp h with h | h
      · obtain ⟨m, hm, h2⟩ := Array.any_eq_true.1 h
        simp only [Bool.and_eq_true, beq_iff_eq] at h2
        exact .one ho (Array.getElem_mem hm) h2.1 h2.2
      · obtain ⟨m, hm, h2⟩ := Array.any_eq_true.1 h
        simp only [Bool.and_eq_true] at h2
        exact .step ho (Array.getElem_mem hm) h2.1 (waitsB_spec h2.2)
def closedB (ops : Array Oper) (l : Array Bool) : Bool := (List.range ops.size).all fun j => match ops[j]? with
  | some o => !l.getD j false || o.after.all fun e => !Region.binds .any e || l.getD e.on false
  | none => true
theorem closedB_spec {ops : Array Oper} {l : Array Bool} (h : closedB ops l = true) : ClosedL ops l := fun j o ho hl e he hb => by
  have h1 := List.all_eq_true.1 h j (List.mem_range.2 (Array.getElem?_eq_some_iff.1 ho).1)
  rw [ho] at h1
  simp only [hl, Bool.not_true, Bool.false_or] at h1
  obtain ⟨m, hm, rfl⟩ := Array.mem_iff_getElem.1 he
  have h2 := Array.all_eq_true.1 h1 m hm
  simpa [hb] using h2
/-- What is of ds waits for number i; what is listed is closed. -/
def waitsFor (ops : Array Oper) (l : Array Bool) (ds : List Nat) (i : Nat) : Bool := closedB ops l && ds.all fun d => waitsB ops i ops.size d
section
variable {P : Program} {n : Nat} {L : FL} {w : World} {ops : Array Oper} {Q : Exit → Act → World → Prop} {S : World → Prop} {ds : List Nat} {fuel : Nat} {l : Array Bool}
theorem C.draw {id : Nat} {os : List Oper} (m : Nat) (S : World → Prop) (ds : List Nat) (hm : P.follows .mixedOrders = true) (hl : os.length = m) (h : ∀ w', Keep Non w w' → w'.heap = w.heap → D P n os.toArray Q S ds m (Array.replicate m false) L w') : C P n (.region id os.toArray true) Q L w := ⟨fun a ha => by
  subst hl
  refine wp_region_any hm ?_
  have h1 := (h w.drew ⟨rfl, rfl, rfl, Nat.le_refl _, fun _ _ _ => rfl⟩ rfl).out a ha
  exact wpAny_of_wpS _ _ _ _ (by simpa using h1)⟩
def takeOk (ops : Array Oper) (l : Array Bool) (i : Nat) : Bool := Region.noSelect ops && Region.free .any ops l i && (Region.ready .any ops l).contains i
/-- What yields in whatever world. -/
theorem D.take (i : Nat) {d : Nat} {op : Op} {ty : TypeId} {pos : String} {after : Array Edge} {g : Option (Nat × Bool)} {v : Value} (hi : ops[i]? = some ⟨some d, op, ty, pos, after, g⟩) (hok : takeOk ops l i = true) [hQ : PanicOk Q] (hg : on ops L g = some true) (hd : Nat.blt d n = true) (hy : Y P n L (fun _ => True) op ty v)
    (h : D P n ops Q S ds fuel (l.setIfInBounds i true) ((d, v) :: L) w) : D P n ops Q S ds (fuel + 1) l L w := ⟨fun a ha => by
  simp only [takeOk, Bool.and_eq_true] at hok
  exact wpS_first (T := fun _ => True) hi (Region.noSelect_spec hok.1.1) (fun c a w => hQ.out c a _ _ w) (.inl fun _ => trivial) _ l a w (.inl fun _ => trivial) (Region.free_spec hi hok.1.2) (by simpa using hok.2) (.inl ⟨wanted_of (o := ⟨some d, op, ty, pos, after, g⟩) ha hg, fun w hw => hy.out a ha w hw _ _ _ _⟩) (.inr fun _ => trivial) (h.out _ (ha.put v hd))⟩
/-- What yields in every world that meets S. -/
theorem D.read (i : Nat) {d : Nat} {op : Op} {ty : TypeId} {pos : String} {after : Array Edge} {g : Option (Nat × Bool)} {v : Value} (hi : ops[i]? = some ⟨some d, op, ty, pos, after, g⟩) (hok : (takeOk ops l i && waitsFor ops l ds i) = true) [hQ : PanicOk Q] (hg : on ops L g = some true) (hd : Nat.blt d n = true) (hS : S w) (hy : Y P n L S op ty v)
    (h : D P n ops Q S ds fuel (l.setIfInBounds i true) ((d, v) :: L) w) : D P n ops Q S ds (fuel + 1) l L w := ⟨fun a ha => by
  simp only [takeOk, waitsFor, Bool.and_eq_true] at hok
  exact wpS_first (T := S) hi (Region.noSelect_spec hok.1.1.1) (fun c a w => hQ.out c a _ _ w) (.inr ⟨fun _ h => h, fun d hd => waitsB_spec (List.all_eq_true.1 hok.2.2 d (List.contains_iff_mem.1 hd))⟩) _ l a w (.inr (closedB_spec hok.2.1)) (Region.free_spec hi hok.1.1.2) (by simpa using hok.1.2) (.inl ⟨wanted_of (o := ⟨some d, op, ty, pos, after, g⟩) ha hg, fun w hw => hy.out a ha w hw _ _ _ _⟩) (.inl hS) (h.out _ (ha.put v hd))⟩
theorem D.off (i : Nat) {d : Nat} {op : Op} {ty : TypeId} {pos : String} {after : Array Edge} {g : Option (Nat × Bool)} (hi : ops[i]? = some ⟨some d, op, ty, pos, after, g⟩) (hok : takeOk ops l i = true) [hQ : PanicOk Q] (hg : on ops L g = some false) (hd : Nat.blt d n = true)
    (h : D P n ops Q S ds fuel (l.setIfInBounds i true) ((d, undef) :: L) w) : D P n ops Q S ds (fuel + 1) l L w := ⟨fun a ha => by
  simp only [takeOk, Bool.and_eq_true] at hok
  exact wpS_first (T := fun _ => True) hi (Region.noSelect_spec hok.1.1) (fun c a w => hQ.out c a _ _ w) (.inl fun _ => trivial) _ l a w (.inl fun _ => trivial) (Region.free_spec hi hok.1.2) (by simpa using hok.2) (.inr ⟨wanted_of (o := ⟨some d, op, ty, pos, after, g⟩) ha hg, rfl⟩) (.inr fun _ => trivial) (h.out _ (ha.put undef hd))⟩
theorem D.offU (i : Nat) {d j t : Nat} {want : Bool} {op : Op} {ty : TypeId} {pos : String} {after : Array Edge} (hi : ops[i]? = some ⟨some d, op, ty, pos, after, some (j, want)⟩) (hok : takeOk ops l i = true) [hQ : PanicOk Q] (hj : (ops[j]?).bind (·.dst) = some t) (hv : Vb.get L t = some undef) (hd : Nat.blt d n = true)
    (h : D P n ops Q S ds fuel (l.setIfInBounds i true) ((d, undef) :: L) w) : D P n ops Q S ds (fuel + 1) l L w := ⟨fun a ha => by
  simp only [takeOk, Bool.and_eq_true] at hok
  have hw : Region.wanted ⟨some d, op, ty, pos, after, some (j, want)⟩ (yielded ops a.tmps) = false := by
    unfold Region.wanted yielded
    simp only [hj, Option.bind_some, ha.look t _ hv]
    rfl
  exact wpS_first (T := fun _ => True) hi (Region.noSelect_spec hok.1.1) (fun c a w => hQ.out c a _ _ w) (.inl fun _ => trivial) _ l a w (.inl fun _ => trivial) (Region.free_spec hi hok.1.2) (by simpa using hok.2) (.inr ⟨hw, rfl⟩) (.inr fun _ => trivial) (h.out _ (ha.put undef hd))⟩
/-- Whichever of these comes up. -/
structure Any (P : Program) (n : Nat) (ops : Array Oper) (Q : Exit → Act → World → Prop) (S : World → Prop) (ds : List Nat) (fuel : Nat) (l : Array Bool) (L : FL) (w : World) (rs : List Nat) : Prop where
  mk :: (out : ∀ a, Fr n L a → ∀ i ∈ rs, wpOp P ops Q i (fun a' w' => (ds.contains i = false → S w → S w') ∧ wpS P ops Q S ds fuel (l.setIfInBounds i true) a' w') a w)
theorem Any.nil : Any P n ops Q S ds fuel l L w [] := ⟨fun _ _ _ h => by cases h⟩
theorem Any.cons {i : Nat} {rs : List Nat} {d : Nat} {op : Op} {ty : TypeId} {pos : String} {after : Array Edge} {g : Option (Nat × Bool)} {R : Value → World → Prop} (hi : ops[i]? = some ⟨some d, op, ty, pos, after, g⟩) (hg : on ops L g = some true) (hd : Nat.blt d n = true) (hs : St P n L w op ty R)
    (h : ∀ v w', R v w' → (ds.contains i = false → S w → S w') ∧ D P n ops Q S ds fuel (l.setIfInBounds i true) ((d, v) :: L) w') (hr : Any P n ops Q S ds fuel l L w rs) : Any P n ops Q S ds fuel l L w (i :: rs) := ⟨fun a ha j hj => by
  rcases List.mem_cons.1 hj with rfl | hj
  · refine wpOp_step hi (fun K' hK' => ?_)
    rw [if_pos (wanted_of (o := ⟨some d, op, ty, pos, after, g⟩) ha hg)]
    exact hs.out a ha _ _ _ _ K' Q (fun v w' hR => hK' _ _ ⟨(h v w' hR).1, (h v w' hR).2.out _ (ha.put v hd)⟩)
  · exact hr.out a ha j hj⟩
theorem Any.cons0 {i : Nat} {rs : List Nat} {op : Op} {ty : TypeId} {pos : String} {after : Array Edge} {g : Option (Nat × Bool)} {R : Value → World → Prop} (hi : ops[i]? = some ⟨none, op, ty, pos, after, g⟩) (hg : on ops L g = some true) (hs : St P n L w op ty R)
    (h : ∀ v w', R v w' → (ds.contains i = false → S w → S w') ∧ D P n ops Q S ds fuel (l.setIfInBounds i true) L w') (hr : Any P n ops Q S ds fuel l L w rs) : Any P n ops Q S ds fuel l L w (i :: rs) := ⟨fun a ha j hj => by
  rcases List.mem_cons.1 hj with rfl | hj
  · refine wpOp_step hi (fun K' hK' => ?_)
    rw [if_pos (wanted_of (o := ⟨none, op, ty, pos, after, g⟩) ha hg)]
    exact hs.out a ha _ _ _ _ K' Q (fun v w' hR => hK' _ _ ⟨(h v w' hR).1, (h v w' hR).2.out _ ha⟩)
  · exact hr.out a ha j hj⟩
theorem D.any (rs : List Nat) (hr : (Region.ready .any ops l == rs && !rs.isEmpty) = true) (h : Any P n ops Q S ds fuel l L w rs) : D P n ops Q S ds (fuel + 1) l L w := ⟨fun a ha => by
  simp only [Bool.and_eq_true, beq_iff_eq, Bool.not_eq_true', List.isEmpty_eq_false_iff] at hr
  refine ⟨fun h0 => absurd (hr.1 ▸ h0) hr.2, fun i hi => ?_⟩
  rw [hr.1] at hi
  exact h.out a ha i hi⟩
theorem D.one (i : Nat) {d : Nat} {op : Op} {ty : TypeId} {pos : String} {after : Array Edge} {g : Option (Nat × Bool)} {R : Value → World → Prop} (hi : ops[i]? = some ⟨some d, op, ty, pos, after, g⟩) (hr : (Region.ready .any ops l == [i]) = true) (hg : on ops L g = some true) (hd : Nat.blt d n = true) (hs : St P n L w op ty R)
    (h : ∀ v w', R v w' → (ds.contains i = false → S w → S w') ∧ D P n ops Q S ds fuel (l.setIfInBounds i true) ((d, v) :: L) w') : D P n ops Q S ds (fuel + 1) l L w := D.any [i] (by simpa using hr) (Any.cons hi hg hd hs h Any.nil)
theorem D.one0 (i : Nat) {op : Op} {ty : TypeId} {pos : String} {after : Array Edge} {g : Option (Nat × Bool)} {R : Value → World → Prop} (hi : ops[i]? = some ⟨none, op, ty, pos, after, g⟩) (hr : (Region.ready .any ops l == [i]) = true) (hg : on ops L g = some true) (hs : St P n L w op ty R)
    (h : ∀ v w', R v w' → (ds.contains i = false → S w → S w') ∧ D P n ops Q S ds fuel (l.setIfInBounds i true) L w') : D P n ops Q S ds (fuel + 1) l L w := D.any [i] (by simpa using hr) (Any.cons0 hi hg hs h Any.nil)
theorem D.fin (hr : (Region.ready .any ops l == []) = true) (h : E n Q .normal L w) : D P n ops Q S ds fuel l L w := ⟨fun a ha => by
  have hr' : Region.ready .any ops l = [] := by simpa using hr
  cases fuel with
  | zero => exact ⟨hr', h.out a ha⟩
  | succ k => exact ⟨fun _ => h.out a ha, by rw [hr']; simp⟩⟩
end

/-! ### Pieces -/
/-- A piece of code, by the way to it: 0 the first part or the body, 1 the second. -/
def pcAt : List Nat → Code → Code
  | [], c => c
  | 0 :: r, .seq x _ => pcAt r x
  | 1 :: r, .seq _ y => pcAt r y
  | 0 :: r, .cond _ x _ => pcAt r x
  | 1 :: r, .cond _ _ y => pcAt r y
  | 0 :: r, .block _ c => pcAt r c
  | 0 :: r, .loop c => pcAt r c
  | _, _ => .skip
def pc (p : List Nat) (f : Func) : Code := match f.body with
  | some c => pcAt p c
  | none => .skip
/-- What is owed at a piece's exits. -/
def Post (n : Nat) (R : Exit → FL → World → Prop) : Exit → Act → World → Prop
  | .panic _, _, _ => False
  | e, a, w => ∃ L, R e L w ∧ Fr n L a
instance {n : Nat} {R : Exit → FL → World → Prop} : PanicOk (Post n R) := ⟨fun _ _ _ _ _ h => h⟩
section
variable {P : Program} {n : Nat} {L : FL} {w : World}
theorem C.use {c : Code} {Q : Exit → Act → World → Prop} {L0 : FL} {R : Exit → FL → World → Prop} (h : C P n c (Post n R) L0 w) (hs : Sub L L0) (hR : ∀ e L' w', R e L' w' → E n Q e L' w') : C P n c Q L w :=
  ⟨fun a ha => wp_mono (h.out a (ha.sub hs)) (fun e a' w' hq => by
    cases e <;> first | exact hq.elim | (obtain ⟨L', h1, h2⟩ := hq; exact (hR _ L' w' h1).out a' h2))⟩
theorem E.endN {R : Exit → FL → World → Prop} (L' : FL) (h : R .normal L' w) (hs : Sub L L') : E n (Post n R) .normal L w := ⟨fun _ ha => ⟨L', h, ha.sub hs⟩⟩
theorem E.endX {R : Exit → FL → World → Prop} {id : Nat} (L' : FL) (h : R (.exit id) L' w) (hs : Sub L L') : E n (Post n R) (.exit id) L w := ⟨fun _ ha => ⟨L', h, ha.sub hs⟩⟩
theorem E.endR {R : Exit → FL → World → Prop} (L' : FL) (h : R .ret L' w) (hs : Sub L L') : E n (Post n R) .ret L w := ⟨fun _ ha => ⟨L', h, ha.sub hs⟩⟩
end

/-! ### Results that lie in a variable -/
section
variable {P : Program} {n : Nat} {L : FL} {w : World} {fn : Func} {R : Value → World → Prop}
theorem E.retCell {t b o : Nat} {T : TypeId} {v : Value} (hr : fn.results = #[.cell t T]) (hv : get L t = some (.pointer (some ⟨b, o, none⟩))) (hl : Ld P T w b o v) (h : R v w) : E n (bodyPost P fn (Ret R)) .ret L w :=
  E.back (.inr rfl) (fun a ha => by simp [results, hr, ha.look _ _ hv, asAddr, hl.out]) h
theorem E.retCell2 {t u b o : Nat} {T : TypeId} {v v' : Value} (hr : fn.results = #[.cell t T, .tmp u]) (hv : get L t = some (.pointer (some ⟨b, o, none⟩))) (hl : Ld P T w b o v) (hu : get L u = some v') (h : R (.tuple #[v, v']) w) : E n (bodyPost P fn (Ret R)) .ret L w :=
  E.back (.inr rfl) (fun a ha => by simp [results, hr, ha.look _ _ hv, ha.look _ _ hu, asAddr, hl.out]) h
end

end Go.Proofs.Ytkehmehodgcdfaa.Vb
