/- Rules of a walk, third part: what a program's types are, as classes; the rules over them. No program is named here. -/
import Derived.Test.YtkehmehodgcdfaaVc
namespace Go.Proofs.Ytkehmehodgcdfaa.Vb
open Go.RowKit

class TyC (P : Program) (t : TypeId) (z : outParam Value) (sz bytes : outParam Nat) : Prop where
  mk :: (out : Ty P t z sz bytes) (zsz : z.cells.size = sz) (pos : 0 < sz) (bpos : 0 < bytes)
class SlC (P : Program) (t : TypeId) (e : outParam TypeId) : Prop where
  mk :: (out : P.underlying t = some (.slice e))
class PtrC (P : Program) (t : TypeId) (e : outParam TypeId) : Prop where
  mk :: (out : P.underlying t = some (.pointer e))
class ArrC (P : Program) (t : TypeId) (m : outParam Nat) (e : outParam TypeId) : Prop where
  mk :: (out : P.underlying t = some (.array m e))
class StrC (P : Program) (t : TypeId) : Prop where
  mk :: (out : P.underlying t = some .string)
class BoolC (P : Program) (t : TypeId) : Prop where
  mk :: (out : P.underlying t = some .bool)
class IntC (P : Program) (t : TypeId) (k : outParam IntKind) : Prop where
  mk :: (out : P.underlying t = some (.int k))
class OneC (P : Program) (t : TypeId) : Prop where
  mk :: (out : ∃ d, P.underlying t = some d ∧ isOne d = true)
class AggC (P : Program) (t : TypeId) : Prop where
  mk :: (out : ∃ d, P.underlying t = some d ∧ isOne d = false)
class FA (P : Program) (s i : Nat) (off : outParam Nat) : Prop where
  mk :: (out : ∀ (b o : Nat) (w : World), (Instr.fieldAt s (.pointer (some ⟨b, o, none⟩)) i).run P w = .ok (.pointer (some ⟨b, o + off, none⟩)) w)
theorem FA.of {P : Program} {s i off : Nat} {fs : Array Field} {f : Field} {z : Value} {sz bytes : Nat} (hs : P.underlying s = some (.struct fs)) (hf : fs[i]? = some f) (ht : Ty P f.type z sz bytes) (hsz : Nat.blt 0 sz = true) (ho : f.offset = off) : FA P s i off := ⟨fun b o w => by
  have h0 : sz ≠ 0 := by have : 0 < sz := by simpa [Nat.blt_eq] using hsz
                         omega
  subst ho
  simp [Instr.fieldAt, run_underlying hs, hf, Instr.sureAddr, fieldPlace, ht.sizeOf_, h0, add_addr]⟩
class PlC (P : Program) (t : TypeId) (zs : outParam (Array Value)) (places : outParam (Array (Nat × Nat))) : Prop where
  mk :: (out : Places P t zs places)
class GoC (P : Program) (f : FuncId) : Prop where
  mk :: (out : Goes P f)

section
variable {P : Program} {n : Nat} {L : FL} {S : World → Prop} {ty : TypeId} {w : World}
theorem Ld.oneC {t : TypeId} [h : OneC P t] {b o : Nat} {v : Value} (hc : w.cell? ⟨b, o, none⟩ = some v) : Ld P t w b o v := by
  obtain ⟨d, h1, h2⟩ := h.out
  exact Ld.one h1 h2 hc
theorem Ld.aggC {t : TypeId} {z : Value} {sz bytes : Nat} [h : AggC P t] [ht : TyC P t z sz bytes] {b o : Nat} {cs : List Value} (hc : Cells w b o cs) (hl : cs.length = sz) : Ld P t w b o (.agg cs.toArray) := by
  obtain ⟨d, h1, h2⟩ := h.out
  exact Ld.agg h1 h2 ht.out hc hl
theorem cells_nil {b o : Nat} : Cells w b o [] := fun j v hj => by cases hj
theorem cells_cons {b o : Nat} {v : Value} {vs : List Value} (h : w.cell? ⟨b, o, none⟩ = some v) (hs : Cells w b (o + 1) vs) : Cells w b o (v :: vs) := fun j u hj => by
  cases j with
  | zero => simpa using (by simpa using hj : v = u) ▸ h
  | succ j => have := hs j u (by simpa using hj); rwa [show o + 1 + j = o + (j + 1) by omega] at this
theorem Ld.two {t : TypeId} {z : Value} {bytes : Nat} [AggC P t] [TyC P t z 2 bytes] {b o : Nat} {v0 v1 : Value} (h0 : w.cell? ⟨b, o, none⟩ = some v0) (h1 : w.cell? ⟨b, o + 1, none⟩ = some v1) : Ld P t w b o (.agg #[v0, v1]) :=
  Ld.aggC (z := z) (sz := 2) (bytes := bytes) (cells_cons h0 (cells_cons h1 cells_nil)) rfl
theorem Ld.three {t : TypeId} {z : Value} {bytes : Nat} [AggC P t] [TyC P t z 3 bytes] {b o : Nat} {v0 v1 v2 : Value} (h0 : w.cell? ⟨b, o, none⟩ = some v0) (h1 : w.cell? ⟨b, o + 1, none⟩ = some v1) (h2 : w.cell? ⟨b, o + 2, none⟩ = some v2) : Ld P t w b o (.agg #[v0, v1, v2]) :=
  Ld.aggC (z := z) (sz := 3) (bytes := bytes) (cells_cons h0 (cells_cons h1 (cells_cons h2 cells_nil))) rfl
theorem Ld.four {t : TypeId} {z : Value} {bytes : Nat} [AggC P t] [TyC P t z 4 bytes] {b o : Nat} {v0 v1 v2 v3 : Value} (h0 : w.cell? ⟨b, o, none⟩ = some v0) (h1 : w.cell? ⟨b, o + 1, none⟩ = some v1) (h2 : w.cell? ⟨b, o + 2, none⟩ = some v2) (h3 : w.cell? ⟨b, o + 3, none⟩ = some v3) : Ld P t w b o (.agg #[v0, v1, v2, v3]) :=
  Ld.aggC (z := z) (sz := 4) (bytes := bytes) (cells_cons h0 (cells_cons h1 (cells_cons h2 (cells_cons h3 cells_nil)))) rfl
theorem Ld.five {t : TypeId} {z : Value} {bytes : Nat} [AggC P t] [TyC P t z 5 bytes] {b o : Nat} {v0 v1 v2 v3 v4 : Value} (h0 : w.cell? ⟨b, o, none⟩ = some v0) (h1 : w.cell? ⟨b, o + 1, none⟩ = some v1) (h2 : w.cell? ⟨b, o + 2, none⟩ = some v2) (h3 : w.cell? ⟨b, o + 3, none⟩ = some v3) (h4 : w.cell? ⟨b, o + 4, none⟩ = some v4) : Ld P t w b o (.agg #[v0, v1, v2, v3, v4]) :=
  Ld.aggC (z := z) (sz := 5) (bytes := bytes) (cells_cons h0 (cells_cons h1 (cells_cons h2 (cells_cons h3 (cells_cons h4 cells_nil))))) rfl

theorem Y.fieldC {x : Operand} {s i off b o : Nat} [h : FA P s i off] (hx : ev L x = some (.pointer (some ⟨b, o, none⟩))) : Y P n L S (.fieldAddr s x i) ty (.pointer (some ⟨b, o + off, none⟩)) := ⟨fun g hg w _ dst pos after guard => by
  simp [execOp, hg.eval hx, h.out]⟩
theorem Y.lenC {x : Operand} {t e : TypeId} [h : SlC P t e] {a : Option Addr} {m c : Nat} (hx : ev L x = some (.slice a m c)) : Y P n L S (.call { callee := .builtin .len, args := #[x], argTypes := #[t] }) ty (.int .i64 m) := Y.lenSl h.out hx
theorem Y.lenStrC {x : Operand} {t : TypeId} [h : StrC P t] {s : ByteArray} (hx : ev L x = some (.string s)) : Y P n L S (.call { callee := .builtin .len, args := #[x], argTypes := #[t] }) ty (.int .i64 s.size) := Y.lenStr h.out hx
theorem Y.indexC {x y : Operand} {t e : TypeId} {z : Value} {sz bytes b o m c : Nat} {kk : IntKind} {i : Int} (k : Nat) [ht : SlC P t e] [he : TyC P e z sz bytes] (hx : ev L x = some (.slice (some ⟨b, o, none⟩) m c)) (hy : ev L y = some (.int kk i)) (hi : i = (k : Int)) (hk : k < m) :
    Y P n L S (.indexAddr t x y) ty (.pointer (some ⟨b, o + k * sz, none⟩)) := Y.indexSl k ht.out he.out hx hy hi hk
theorem Y.indexArrC {x y : Operand} {t e : TypeId} {z : Value} {sz bytes b o m : Nat} {kk : IntKind} {i : Int} (k : Nat) [ht : ArrC P t m e] [he : TyC P e z sz bytes] (hx : ev L x = some (.pointer (some ⟨b, o, none⟩))) (hy : ev L y = some (.int kk i)) (hi : i = (k : Int)) (hk : k < m) :
    Y P n L S (.indexAddr t x y) ty (.pointer (some ⟨b, o + k * sz, none⟩)) := Y.indexArr k ht.out he.out hx hy hi hk
theorem Y.load1 {x : Operand} {t : TypeId} [OneC P t] {b o : Nat} {v : Value} (hx : ev L x = some (.pointer (some ⟨b, o, none⟩))) (hc : w.cell? ⟨b, o, none⟩ = some v) : Y P n L (fun w' => w' = w) (.load t x) ty v :=
  Y.load hx (fun w' e => by cases e; exact Ld.oneC hc)
theorem Y.loadW {x : Operand} {t : TypeId} {b o : Nat} {v : Value} (hx : ev L x = some (.pointer (some ⟨b, o, none⟩))) (hl : Ld P t w b o v) : Y P n L (fun w' => w' = w) (.load t x) ty v :=
  Y.load hx (fun w' e => by cases e; exact hl)
theorem Y.buildC {t : TypeId} {zs : Array Value} {places : Array (Nat × Nat)} [h : PlC P t zs places] {ps : List (Nat × Operand)} {pv : List (Nat × Value)} {cs : List Value} (hp : evp L ps = some pv) (hc : Instr.fill (places[·]?) zs pv = some cs.toArray) :
    Y P n L S (.build t ps.toArray) ty (.agg cs.toArray) := Y.build h.out hp hc
theorem Y.eqlPtrNilC {x y : Operand} {t t' e : TypeId} [ht : PtrC P t e] {a : Option Addr} (hx : ev L x = some (.pointer a)) (hy : ev L y = some (.pointer none)) : Y P n L S (.binOp .eql t x y t') ty (.bool a.isNone) := Y.eqlPtrNil ht.out hx hy
theorem Y.neqPtrNilC {x y : Operand} {t t' e : TypeId} [ht : PtrC P t e] {a : Option Addr} (hx : ev L x = some (.pointer a)) (hy : ev L y = some (.pointer none)) : Y P n L S (.binOp .neq t x y t') ty (.bool !a.isNone) := Y.neqPtrNil ht.out hx hy
theorem Y.eqlSlNilC {x y : Operand} {t t' e : TypeId} [ht : SlC P t e] {a : Option Addr} {m c : Nat} (hx : ev L x = some (.slice a m c)) (hy : ev L y = some (.slice none 0 0)) : Y P n L S (.binOp .eql t x y t') ty (.bool a.isNone) := Y.eqlSlNil ht.out hx hy
theorem Y.eqlBoolC {x y : Operand} {t t' : TypeId} [ht : BoolC P t] {a b : Bool} (hx : ev L x = some (.bool a)) (hy : ev L y = some (.bool b)) : Y P n L S (.binOp .eql t x y t') ty (.bool (a == b)) := Y.eqlBool ht.out hx hy
theorem Y.neqBoolC {x y : Operand} {t t' : TypeId} [ht : BoolC P t] {a b : Bool} (hx : ev L x = some (.bool a)) (hy : ev L y = some (.bool b)) : Y P n L S (.binOp .neq t x y t') ty (.bool !(a == b)) := Y.neqBool ht.out hx hy
theorem Y.convC {x : Operand} {s t : TypeId} {k k' k0 : IntKind} {a : Int} (z : Int) [hs : IntC P s k0] [ht : IntC P t k'] (hx : ev L x = some (.int k a)) (hz : k'.wrap a = z) : Y P n L S (.convert s t x) ty (.int k' z) := Y.convInt z hs.out ht.out hx hz
theorem Y.appendNoneC {s x : Operand} {t e : TypeId} {z : Value} {sz bytes : Nat} [ht : SlC P t e] [he : TyC P e z sz bytes] {A A' : Option Addr} {m c c' : Nat} (hs : ev L s = some (.slice A m c)) (hx : ev L x = some (.slice A' 0 c')) (hmc : m ≤ c) :
    Y P n L S (.call { callee := .builtin .append, args := #[s, x], argTypes := #[t, t] }) ty (.slice A m c) := Y.appendNone ht.out he.out hs hx hmc
theorem Y.indexAgg {x y : Operand} {t e : TypeId} {z : Value} {bytes m : Nat} {kk : IntKind} {i : Int} {cs : Array Value} {v : Value} (k : Nat) [ht : ArrC P t m e] [h1 : OneC P e] [he : TyC P e z 1 bytes] (hx : ev L x = some (.agg cs)) (hy : ev L y = some (.int kk i)) (hi : i = (k : Int)) (hk : k < m) (hv : cs[k]? = some v) :
    Y P n L S (.index t x y) ty v := ⟨fun g hg w _ dst pos after guard => by
  subst hi
  have h2 : ¬ m ≤ k := by omega
  obtain ⟨d, hd, ho⟩ := h1.out
  simp [execOp, Instr.index, run_underlying ht.out, asIntOf, hg.eval hx, hg.eval hy, h2, he.out.sizeOf_, part, isAgg_one hd ho, hv]⟩

theorem add_zero_addr (a : Addr) : a.add 0 = a := by unfold Addr.add; simp
theorem map_add_zero (A : Option Addr) : (A.map fun x => x.add 0) = A := by cases A <;> simp [add_zero_addr]
/-- xs[:h:k] -/
theorem Y.cut3 {x hi mx : Operand} {t e : TypeId} {z : Value} {sz bytes m c : Nat} {A : Option Addr} {k1 k2 : IntKind} {ih ik : Int} (h k : Nat) [ht : SlC P t e] [he : TyC P e z sz bytes] (hx : ev L x = some (.slice A m c)) (hh : ev L hi = some (.int k1 ih)) (hm : ev L mx = some (.int k2 ik)) (eh : ih = (h : Int)) (ek : ik = (k : Int)) (h1 : h ≤ k) (h2 : k ≤ c) :
    Y P n L S (.slice t x none (some hi) (some mx)) ty (.slice A h k) := ⟨fun g hg w _ dst pos after guard => by
  subst eh; subst ek
  simp [execOp, Instr.sliceAt, Instr.slice, run_underlying ht.out, hg.eval hx, hg.eval hh, hg.eval hm, he.out.sizeOf_, Instr.sliceBounds, Instr.sliceBound, asIntOf, h1, h2, map_add_zero]⟩
/-- xs[:h] -/
theorem Y.cutHi {x hi : Operand} {t e : TypeId} {z : Value} {sz bytes m c : Nat} {A : Option Addr} {k1 : IntKind} {ih : Int} (h : Nat) [ht : SlC P t e] [he : TyC P e z sz bytes] (hx : ev L x = some (.slice A m c)) (hh : ev L hi = some (.int k1 ih)) (eh : ih = (h : Int)) (h1 : h ≤ c) :
    Y P n L S (.slice t x none (some hi) none) ty (.slice A h c) := ⟨fun g hg w _ dst pos after guard => by
  subst eh
  simp [execOp, Instr.sliceAt, Instr.slice, run_underlying ht.out, hg.eval hx, hg.eval hh, he.out.sizeOf_, Instr.sliceBounds, Instr.sliceBound, asIntOf, h1, map_add_zero]⟩
/-- xs[l:] -/
theorem Y.cutLo {x lo : Operand} {t e : TypeId} {z : Value} {sz bytes m c b o : Nat} {k1 : IntKind} {il : Int} (l : Nat) [ht : SlC P t e] [he : TyC P e z sz bytes] (hx : ev L x = some (.slice (some ⟨b, o, none⟩) m c)) (hl : ev L lo = some (.int k1 il)) (el : il = (l : Int)) (h1 : l ≤ m) :
    Y P n L S (.slice t x (some lo) none none) ty (.slice (some ⟨b, if c = l then o else o + l * sz, none⟩) (m - l) (c - l)) := ⟨fun g hg w _ dst pos after guard => by
  subst el
  by_cases hk : c = l <;> simp [execOp, Instr.sliceAt, Instr.slice, run_underlying ht.out, hg.eval hx, hg.eval hl, he.out.sizeOf_, Instr.sliceBounds, Instr.sliceBound, asIntOf, h1, hk, add_addr]⟩

theorem St.allocC {t : TypeId} {z : Value} {sz bytes : Nat} [ht : TyC P t z sz bytes] : St P n L w (.alloc t) ty (fun r w' => ∃ b, r = .pointer (some ⟨b, 0, none⟩) ∧ New w w' b t z.cells.toList) := St.alloc ht.out
theorem St.storeC {t : TypeId} {x y : Operand} {z v : Value} {sz bytes b o : Nat} {rt : TypeId} {cs : List Value} [ht : TyC P t z sz bytes] (hx : ev L x = some (.pointer (some ⟨b, o, none⟩))) (hy : ev L y = some v) (hv : v.cells.size = sz)
    (hr : Row w b rt cs) (hl : o + sz ≤ cs.length) (h1 : ∀ u ∈ v.cells.toList, u.oneCell' = true) : St P n L w (.store t x y) ty (fun _ w' => Put w w' b rt (splice cs o v.cells.toList)) := St.store ht.out hx hy hv hr hl h1
theorem St.callC {f : FuncId} {xs : List Operand} {ats : Array TypeId} {vs : List Value} {R : Value → World → Prop} [hf : GoC P f] (hx : evs L xs = some vs) (hs : Meets P f vs.toArray w R) :
    St P n L w (.call { callee := .value (.func f), args := xs.toArray, argTypes := ats }) ty R := St.call hf.out hx hs
/-- A literal slice: its elements' cells one behind the other. -/
theorem St.lit {t e : TypeId} {z : Value} {sz bytes : Nat} {ps : List (Nat × Operand)} {vs : List Value} [ht : SlC P t e] [he : TyC P e z sz bytes] {len : Nat} (hp : evp L ps = some (idx 0 vs)) (hlen : vs.length = len) (hb : len * sz ≤ 16777216) (hv : ∀ v ∈ vs, v.cells.size = sz) :
    St P n L w (.buildSlice t len ps.toArray) ty (fun r w' => ∃ b, r = .slice (some ⟨b, 0, none⟩) len len ∧ New w w' b e (flat vs)) := by
  subst hlen
  refine St.buildSlice ht.out he.out (Nat.ble_eq ▸ hb) hp ?_
  rw [fill_all sz vs 0 _ hv (by simp)]
  simp
theorem St.appendC {s x : Operand} {t e : TypeId} {z : Value} {sz bytes : Nat} (base : Nat) {v : Value} {m1 : Nat} {xs : List Value} {b o m c : Nat} (news : List Value) [ht : SlC P t e] [he : TyC P e z sz bytes] (hs : ev L s = some v) (hx : ev L x = some (.slice (some ⟨b, o, none⟩) m c)) (hown : w.ownsRow base e sz v m1 xs) (hnews : Cells w b o news) (hl : news.length = m * sz) (h1 : ∀ u ∈ news, u.oneCell' = true)
    (hbytes : (m1 + m) * bytes ≤ 140737488355328) (hbase : base ≤ w.heap.size) :
    St P n L w (.call { callee := .builtin .append, args := #[s, x], argTypes := #[t, t] }) ty (fun v' w' => w'.ownsRow base e sz v' (m1 + m) (xs ++ news) ∧ Keep (fun k => some k = v.ownBlock) w w' ∧ (v'.ownBlock = v.ownBlock ∨ v'.ownBlock = some w.heap.size)) :=
  St.append base news ht.out he.out he.zsz he.pos hs hown hx hnews hl h1 hbytes he.bpos hbase
theorem St.make0C {t e : TypeId} {z : Value} {sz bytes : Nat} {x y : Operand} {k1 k2 : IntKind} (base c : Nat) {ci : Int} [ht : SlC P t e] [he : TyC P e z sz bytes] (hx : ev L x = some (.int k1 0)) (hy : ev L y = some (.int k2 ci)) (hc : ci = (c : Int))
    (hbytes : bytes * c ≤ 281474976710656) (h63 : c ≤ maxLen) (hbase : base ≤ w.heap.size) :
    St P n L w (.makeSlice t x y) ty (fun v' w' => w'.ownsRow base e sz v' 0 [] ∧ Keep Non w w' ∧ v' = .slice (some ⟨w.heap.size, 0, none⟩) 0 c) := St.make0 base c ht.out he.out hx hy hc hbytes h63 hbase
end

/-! ### Whole numbers that fit -/
theorem wrap_i64 {x : Int} (h : -9223372036854775808 ≤ x ∧ x ≤ 9223372036854775807) : IntKind.i64.wrap x = x := by
  rw [IntKind.wrap_i64]; omega

end Go.Proofs.Ytkehmehodgcdfaa.Vb
