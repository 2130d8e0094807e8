/- Rules of a walk over frames told as lists of filled slots: one rule an operation, each with its own small premises. No program is named here. -/
import Derived.WalkKit
import Derived.OrdersHeld
import Derived.Deep.RegionHeld
import Derived.Maps.AppendAt
import Derived.KernelRfl
import Derived.Deep.LoopGhost
namespace Go.Proofs.Ytkehmehodgcdfaa.Vb
open Go.RowKit

/-! ### Frames -/
abbrev FL := List (Nat × Value)
def get : FL → Nat → Option Value
  | [], _ => none
  | (k, v) :: r, t => bif Nat.beq k t then some v else get r t

theorem get_cons_self (t : Nat) (v : Value) (r : FL) : get ((t, v) :: r) t = some v := by simp [get]
theorem get_cons_ne {t u : Nat} (v : Value) (r : FL) (h : t ≠ u) : get ((t, v) :: r) u = get r u := by
  have h1 : Nat.beq t u = false := by
    cases h' : Nat.beq t u with
    | false => rfl
    | true => exact absurd (Nat.eq_of_beq_eq_true h') h
  simp [get, h1]

theorem some_int {k : IntKind} {x y : Int} (h : x = y) : some (Value.int k x) = some (Value.int k y) := by rw [h]

structure Fr (n : Nat) (L : FL) (a : Act) : Prop where
  size : a.tmps.size = n
  defers : a.defers = []
  look : ∀ t v, get L t = some v → a.tmps[t]? = some v

def ev (L : FL) : Operand → Option Value
  | .tmp t => get L t
  | .const v => some v
  | .global g => some (.pointer (some ⟨g, 0, none⟩))
  | .func f => some (.func (.func f) #[] #[])

def evs (L : FL) : List Operand → Option (List Value)
  | [] => some []
  | x :: r => match ev L x with
    | some v => match evs L r with
      | some vs => some (v :: vs)
      | none => none
    | none => none

theorem Fr.eval {n : Nat} {L : FL} {a : Act} {x : Operand} {v : Value} (h : Fr n L a) (hx : ev L x = some v) : a.eval x = v := by
  cases x with
  | tmp t =>
    have := h.look t v hx
    simp only [Act.eval, Array.getD_eq_getD_getElem?, this, Option.getD_some]
  | const w => simpa [ev, Act.eval] using hx
  | global g => simpa [ev, Act.eval] using hx
  | func f => simpa [ev, Act.eval] using hx

theorem Fr.evals {n : Nat} {L : FL} {a : Act} (h : Fr n L a) : ∀ {xs : List Operand} {vs : List Value}, evs L xs = some vs → xs.map a.eval = vs
  | [], vs, hx => by simpa [evs] using hx
  | x :: r, vs, hx => by
    unfold evs at hx
    cases h1 : ev L x with
    | none => rw [h1] at hx; cases hx
    | some v =>
      rw [h1] at hx
      cases h2 : evs L r with
      | none => rw [h2] at hx; cases hx
      | some us =>
        rw [h2] at hx
        cases hx
        rw [List.map_cons, h.eval h1, h.evals h2]

theorem Fr.put {n d : Nat} {L : FL} {a : Act} (h : Fr n L a) (v : Value) (hd : Nat.blt d n = true) : Fr n ((d, v) :: L) (a.put (some d) v) := by
  have hd' : d < n := by simpa [Nat.blt_eq] using hd
  refine ⟨by simpa [Act.put] using h.size, by simpa [Act.put] using h.defers, fun t u hu => ?_⟩
  by_cases e : d = t
  · subst e
    rw [get_cons_self] at hu
    cases hu
    simp [Act.put, h.size, hd']
  · rw [get_cons_ne _ _ e] at hu
    simp only [Act.put]
    rw [Array.getElem?_setIfInBounds_ne e]
    exact h.look t u hu

theorem Fr.none_ {n : Nat} {L : FL} {a : Act} (h : Fr n L a) (v : Value) : Fr n L (a.put none v) := h

/-- What is told of a frame may be told shorter. -/
def Sub (L : FL) : FL → Prop
  | [] => True
  | p :: r => get L p.1 = some p.2 ∧ Sub L r
theorem Sub.get_ {L : FL} : ∀ {L' : FL}, Sub L L' → ∀ t v, get L' t = some v → get L t = some v
  | [], _, t, v, h => by cases h
  | (k, u) :: r, hs, t, v, h => by
    by_cases e : k = t
    · subst e
      rw [get_cons_self] at h
      cases h
      exact hs.1
    · rw [get_cons_ne _ _ e] at h
      exact hs.2.get_ t v h
theorem Fr.sub {n : Nat} {L L' : FL} {a : Act} (h : Fr n L a) (hs : Sub L L') : Fr n L' a := ⟨h.size, h.defers, fun t v hv => h.look t v (hs.get_ t v hv)⟩

/-- A frame as it is entered. -/
def args : Nat → List Value → FL
  | _, [] => []
  | k, v :: r => (k, v) :: args (k + 1) r
theorem get_args : ∀ (vs : List Value) (k t : Nat), get (args k vs) t = if k ≤ t then vs[t - k]? else none
  | [], k, t => by simp [args, get]
  | v :: r, k, t => by
    by_cases e : k = t
    · subst e
      simp [args, get_cons_self]
    · rw [args, get_cons_ne _ _ e, get_args r (k + 1) t]
      by_cases h : k ≤ t
      · have h1 : k + 1 ≤ t := by omega
        have h2 : t - k = (t - (k + 1)) + 1 := by omega
        simp [h, h1, h2]
      · have h1 : ¬ k + 1 ≤ t := by omega
        simp [h, h1]
theorem Fr.enter {n : Nat} (vs : List Value) (hn : vs.length ≤ n) : Fr n (args 0 vs) { tmps := vs.toArray ++ Array.replicate (n - vs.toArray.size) undef, defers := [] } := by
  refine ⟨by simp; omega, rfl, fun t v hv => ?_⟩
  rw [get_args] at hv
  simp only [Nat.zero_le, if_true, Nat.sub_zero] at hv
  have ht : t < vs.length := (List.getElem?_eq_some_iff.1 hv).1
  simp only [Array.getElem?_append, List.size_toArray, ht, if_true]
  simpa using hv

/-! ### Guards -/
def on (ops : Array Oper) (L : FL) : Option (Nat × Bool) → Option Bool
  | none => some true
  | some (j, want) => match (ops[j]?).bind (·.dst) with
    | some t => match get L t with
      | some (.bool b) => some (b == want)
      | _ => none
    | none => none

theorem wanted_of {ops : Array Oper} {n : Nat} {L : FL} {a : Act} {o : Oper} {b : Bool} (h : Fr n L a) (hg : on ops L o.guard = some b) : Region.wanted o (yielded ops a.tmps) = b := by
  unfold on at hg
  unfold Region.wanted
  cases hgd : o.guard with
  | none => rw [hgd] at hg; simpa using hg
  | some p =>
    obtain ⟨j, want⟩ := p
    rw [hgd] at hg
    simp only at hg ⊢
    unfold yielded
    cases ht : (ops[j]?).bind (·.dst) with
    | none => rw [ht] at hg; cases hg
    | some t =>
      rw [ht] at hg
      simp only at hg
      cases hv : get L t with
      | none => rw [hv] at hg; cases hg
      | some v =>
        rw [hv] at hg
        cases v with
        | bool c =>
          simp only [Option.some.injEq] at hg
          simp only [Option.bind_some, h.look t _ hv]
          subst hg
          cases c <;> cases want <;> rfl
        | _ => cases hg

/-! ### The goals of a walk -/
structure W (P : Program) (n : Nat) (ops : Array Oper) (Q : Exit → Act → World → Prop) (rest : List Oper) (L : FL) (w : World) : Prop where
  mk :: (out : ∀ a, Fr n L a → wpList P ops Q rest a w)
structure C (P : Program) (n : Nat) (c : Code) (Q : Exit → Act → World → Prop) (L : FL) (w : World) : Prop where
  mk :: (out : ∀ a, Fr n L a → Code.wp P c Q a w)
structure E (n : Nat) (Q : Exit → Act → World → Prop) (e : Exit) (L : FL) (w : World) : Prop where
  mk :: (out : ∀ a, Fr n L a → Q e a w)

theorem W.sub {P : Program} {n : Nat} {ops : Array Oper} {Q : Exit → Act → World → Prop} {rest : List Oper} {L L' : FL} {w : World} (h : W P n ops Q rest L' w) (hs : Sub L L') : W P n ops Q rest L w := ⟨fun a ha => h.out a (ha.sub hs)⟩
theorem C.sub {P : Program} {n : Nat} {c : Code} {Q : Exit → Act → World → Prop} {L L' : FL} {w : World} (h : C P n c Q L' w) (hs : Sub L L') : C P n c Q L w := ⟨fun a ha => h.out a (ha.sub hs)⟩
theorem E.sub {n : Nat} {Q : Exit → Act → World → Prop} {e : Exit} {L L' : FL} {w : World} (h : E n Q e L' w) (hs : Sub L L') : E n Q e L w := ⟨fun a ha => h.out a (ha.sub hs)⟩

section code
set_option linter.unusedVariables false
variable {P : Program} {n : Nat} {Q : Exit → Act → World → Prop} {L : FL} {w : World}
theorem C.seq {x y : Code} (h : C P n x (Exit.then (fun a w => y.wp P Q a w) Q) L w) : C P n (.seq x y) Q L w := ⟨fun a ha => wp_seq (h.out a ha)⟩
theorem C.skip (h : E n Q .normal L w) : C P n .skip Q L w := ⟨fun a ha => wp_skip (h.out a ha)⟩
theorem C.ret (h : E n Q .ret L w) : C P n .ret Q L w := ⟨fun a ha => wp_ret (h.out a ha)⟩
theorem C.exit {id : Nat} (h : E n Q (.exit id) L w) : C P n (.exit id) Q L w := ⟨fun a ha => wp_exit (h.out a ha)⟩
theorem C.block {id : Nat} {c : Code} (h : C P n c (Exit.inBlock id Q) L w) : C P n (.block id c) Q L w := ⟨fun a ha => wp_block (h.out a ha)⟩
theorem C.yes {c : Operand} {x y : Code} (hc : ev L c = some (.bool true)) (h : C P n x Q L w) : C P n (.cond c x y) Q L w := ⟨fun a ha => wp_cond_true (ha.eval hc) (h.out a ha)⟩
theorem C.no {c : Operand} {x y : Code} (hc : ev L c = some (.bool false)) (h : C P n y Q L w) : C P n (.cond c x y) Q L w := ⟨fun a ha => wp_cond_false (ha.eval hc) (h.out a ha)⟩
theorem C.if_ {c : Operand} {x y : Code} {b : Bool} (hc : ev L c = some (.bool b)) (ht : b = true → C P n x Q L w) (hf : b = false → C P n y Q L w) : C P n (.cond c x y) Q L w :=
  ⟨fun a ha => wp_cond_split (ha.eval hc) (fun h => (ht h).out a ha) (fun h => (hf h).out a ha)⟩
theorem C.region {id : Nat} {l : List Oper} (h : W P n l.toArray Q l L w) : C P n (.region id l.toArray false) Q L w := ⟨fun a ha => wp_region_lit (h.out a ha)⟩
theorem W.nil {ops : Array Oper} (h : E n Q .normal L w) : W P n ops Q [] L w := ⟨fun a ha => wpList_nil (h.out a ha)⟩
theorem E.go {y : Code} {R : Exit → Act → World → Prop} (h : C P n y Q L w) : E n (Exit.then (fun a w => y.wp P Q a w) R) .normal L w := ⟨fun a ha => h.out a ha⟩
theorem E.thenExit {K : Act → World → Prop} {id : Nat} (h : E n Q (.exit id) L w) : E n (Exit.then K Q) (.exit id) L w := ⟨fun a ha => h.out a ha⟩
theorem E.thenRet {K : Act → World → Prop} (h : E n Q .ret L w) : E n (Exit.then K Q) .ret L w := ⟨fun a ha => h.out a ha⟩
theorem E.inExit {id : Nat} (h : E n Q .normal L w) : E n (Exit.inBlock id Q) (.exit id) L w := ⟨fun a ha => by simpa [Exit.inBlock] using h.out a ha⟩
theorem E.outExit {id id' : Nat} (hne : Nat.beq id' id = false) (h : E n Q (.exit id') L w) : E n (Exit.inBlock id Q) (.exit id') L w := ⟨fun a ha => by
  have : id' ≠ id := by intro e; subst e; simp at hne
  simpa [Exit.inBlock, this] using h.out a ha⟩
theorem E.inNormal {id : Nat} (h : E n Q .normal L w) : E n (Exit.inBlock id Q) .normal L w := ⟨fun a ha => h.out a ha⟩
theorem E.inRet {id : Nat} (h : E n Q .ret L w) : E n (Exit.inBlock id Q) .ret L w := ⟨fun a ha => h.out a ha⟩

/-- What is shown at the end of a piece, and then what follows from there on: the ways of a piece meet again. -/
theorem C.cut {x y : Code} (M : FL → World → Prop)
    (h1 : C P n x (Exit.then (fun a w => ∃ L', M L' w ∧ Fr n L' a) Q) L w) (h2 : ∀ L' w', M L' w' → C P n y Q L' w') : C P n (.seq x y) Q L w :=
  ⟨fun a ha => wp_seq (wp_mono (h1.out a ha) (fun e a w hq => by
    cases e with
    | normal => obtain ⟨L', hM, hf⟩ := hq; exact (h2 L' w hM).out a hf
    | _ => exact hq))⟩
theorem E.meet {M : FL → World → Prop} {R : Exit → Act → World → Prop} (L' : FL) (hM : M L' w) (hs : Sub L L') : E n (Exit.then (fun a w => ∃ L', M L' w ∧ Fr n L' a) R) .normal L w := ⟨fun a ha => ⟨L', hM, ha.sub hs⟩⟩

/-- A loop: what holds at the head of each round, k the way that is left. -/
theorem C.loop {c : Code} (I : Nat → FL → World → Prop) (k0 : Nat) (L0 : FL) (hI : I k0 L0 w) (hs : Sub L L0)
    (h : ∀ k L' w', I k L' w' → C P n c (Exit.then (fun a w => ∃ k' L'', k' < k ∧ I k' L'' w ∧ Fr n L'' a) Q) L' w') : C P n (.loop c) Q L w :=
  ⟨fun a ha => wp_loop_ghost (fun k a w => ∃ L', I k L' w ∧ Fr n L' a) k0 ⟨L0, hI, ha.sub hs⟩ (fun k a w ⟨L', hI', hf⟩ =>
    wp_mono ((h k L' w hI').out a hf) (fun e a w hq => by
      cases e with
      | normal => obtain ⟨k', L'', hlt, hI'', hf'⟩ := hq; exact ⟨k', hlt, L'', hI'', hf'⟩
      | _ => exact hq))⟩
theorem E.again {I : Nat → FL → World → Prop} {k : Nat} {R : Exit → Act → World → Prop} (k' : Nat) (L' : FL) (hlt : k' < k) (hI : I k' L' w) (hs : Sub L L') :
    E n (Exit.then (fun a w => ∃ k' L'', k' < k ∧ I k' L'' w ∧ Fr n L'' a) R) .normal L w := ⟨fun a ha => ⟨k', L', hlt, hI, ha.sub hs⟩⟩
end code

/-! ### Calls -/
def Ret (R : Value → World → Prop) : Ending → World → Prop
  | .returned v, w => R v w
  | _, _ => False
structure Meets (P : Program) (f : FuncId) (vs : Array Value) (w : World) (R : Value → World → Prop) : Prop where
  mk :: (out : Calls P f vs w (Ret R))
theorem Meets.imp {P : Program} {f : FuncId} {vs : Array Value} {w : World} {R R' : Value → World → Prop} (h : Meets P f vs w R) (hr : ∀ v w', R v w' → R' v w') : Meets P f vs w R' :=
  ⟨h.out.mono fun e w' he => by cases e <;> first | exact hr _ _ he | exact he⟩
/-- 'body', for the walk: the text of a function's body, its frame's size. -/
theorem Meets.enter {P : Program} {f n : Nat} {fn : Func} {c : Code} {vs : List Value} {w : World} {R : Value → World → Prop} (hf : P.funcs[f]? = some fn) (hn : fn.ntmps = n) (hb : fn.body = some c) (hl : Nat.ble vs.length n = true)
    (h : C P n c (bodyPost P fn (Ret R)) (args 0 vs) w) : Meets P f vs.toArray w R := by
  subst hn
  exact ⟨calls_of_wp hf hb (h.out _ (Fr.enter vs (Nat.le_of_ble_eq_true hl)))⟩

section ret
variable {P : Program} {n : Nat} {L : FL} {w : World} {fn : Func} {R : Value → World → Prop}
theorem E.back {e : Exit} (he : e = .normal ∨ e = .ret) {v : Value} (hv : ∀ a, Fr n L a → (results fn a.tmps).run P w = .ok v w) (h : R v w) : E n (bodyPost P fn (Ret R)) e L w :=
  ⟨fun a ha => by rcases he with rfl | rfl <;> exact ⟨ha.defers, v, hv a ha, h⟩⟩
theorem Fr.getD {a : Act} {t : Nat} {v : Value} (h : Fr n L a) (hv : get L t = some v) : a.tmps.getD t undef = v := by
  simp only [Array.getD_eq_getD_getElem?, h.look t v hv, Option.getD_some]
theorem E.ret0 {e : Exit} (he : e = .normal ∨ e = .ret) (hr : fn.results = #[]) (h : R (.tuple #[]) w) : E n (bodyPost P fn (Ret R)) e L w :=
  E.back he (fun _ _ => results_none hr _ _ _) h
theorem E.ret1 {t : Nat} {v : Value} (hr : fn.results = #[.tmp t]) (hv : get L t = some v) (h : R v w) : E n (bodyPost P fn (Ret R)) .ret L w :=
  E.back (.inr rfl) (fun a ha => by rw [results_tmp hr, ha.getD hv]) h
theorem E.ret2 {t u : Nat} {v v' : Value} (hr : fn.results = #[.tmp t, .tmp u]) (hv : get L t = some v) (hu : get L u = some v') (h : R (.tuple #[v, v']) w) : E n (bodyPost P fn (Ret R)) .ret L w :=
  E.back (.inr rfl) (fun a ha => by rw [results_tmp2 hr, ha.getD hv, ha.getD hu]) h
end ret

/-! ### Types -/
/-- What a type's row says: its zero value, its cells, its bytes. -/
def Ty (P : Program) (t : TypeId) (z : Value) (sz bytes : Nat) : Prop := (P.info? t).map (fun i => (i.zero, i.size, i.bytes)) = some (some z, sz, bytes)
theorem Ty.get {P : Program} {t : TypeId} {z : Value} {sz bytes : Nat} (h : Ty P t z sz bytes) : ∃ i, P.info? t = some i ∧ i.zero = some z ∧ i.size = sz ∧ i.bytes = bytes := by
  obtain ⟨i, hi, he⟩ := Option.map_eq_some_iff.1 h
  simp only [Prod.mk.injEq] at he
  exact ⟨i, hi, he.1, he.2.1, he.2.2⟩
theorem Ty.sizeOf_ {P : Program} {t : TypeId} {z : Value} {sz bytes : Nat} (h : Ty P t z sz bytes) (w : World) : (sizeOf t).run P w = .ok sz w := by
  obtain ⟨i, hi, _, rfl, _⟩ := h.get
  simp [sizeOf, typeInfo, hi]
theorem Ty.zero_ {P : Program} {t : TypeId} {z : Value} {sz bytes : Nat} (h : Ty P t z sz bytes) (w : World) : (zeroValue t).run P w = .ok z w := by
  obtain ⟨i, hi, hz, _, _⟩ := h.get
  simp [zeroValue, typeInfo, hi, hz]
/-- A type of one cell. -/
def isOne : TypeDesc → Bool
  | .struct _ | .array _ _ => false
  | _ => true
theorem isAgg_one {P : Program} {t : TypeId} {d : TypeDesc} (h : P.underlying t = some d) (ho : isOne d = true) (w : World) : (isAgg t).run P w = .ok false w := by
  cases d <;> simp [isOne] at ho <;> simp [isAgg, run_underlying h]
theorem isAgg_agg {P : Program} {t : TypeId} {d : TypeDesc} (h : P.underlying t = some d) (ho : isOne d = false) (w : World) : (isAgg t).run P w = .ok true w := by
  cases d <;> simp [isOne] at ho <;> simp [isAgg, run_underlying h]

/-! ### Cells -/
/-- From offset o of block b on lie these cells. -/
def Cells (w : World) (b o : Nat) (cs : List Value) : Prop := ∀ (j : Nat) (v : Value), cs[j]? = some v → w.cell? ⟨b, o + j, none⟩ = some v
theorem add_addr (b o k : Nat) : (⟨b, o, none⟩ : Addr).add k = ⟨b, o + k, none⟩ := by
  unfold Addr.add
  split
  · subst_vars; rfl
  · rfl
theorem loadCellsFrom_run {P : Program} {w : World} {b o : Nat} : ∀ (cs : List Value) (i : Nat) (acc : Array Value), Cells w b (o + i) cs → (loadCellsFrom ⟨b, o, none⟩ i cs.length acc).run P w = .ok (acc ++ cs.toArray) w
  | [], i, acc, _ => by simp [loadCellsFrom]
  | c :: r, i, acc, h => by
    have h0 := h 0 c rfl
    have hr : Cells w b (o + (i + 1)) r := fun j v hj => by
      have := h (j + 1) v (by simpa using hj)
      rwa [show o + i + (j + 1) = o + (i + 1) + j by omega] at this
    rw [Nat.add_zero] at h0
    simp only [loadCellsFrom, List.length_cons, add_addr, load, Sem.run_bind, Sem.run, h0, Result.andThen_ok]
    rw [loadCellsFrom_run r (i + 1) (acc.push c) hr]
    simp
theorem loadCells_run {P : Program} {w : World} {b o : Nat} {cs : List Value} (h : Cells w b o cs) : (loadCells ⟨b, o, none⟩ cs.length).run P w = .ok cs.toArray w := by
  have := loadCellsFrom_run (P := P) cs 0 #[] (by simpa using h)
  simpa [loadCells] using this
/-- What a load of a variable of type t gives. -/
structure Ld (P : Program) (t : TypeId) (w : World) (b o : Nat) (v : Value) : Prop where
  mk :: (out : (loadVar t ⟨b, o, none⟩).run P w = .ok v w)
theorem Ld.one {P : Program} {t : TypeId} {d : TypeDesc} (h : P.underlying t = some d) (ho : isOne d = true) {w : World} {b o : Nat} {v : Value} (hc : w.cell? ⟨b, o, none⟩ = some v) : Ld P t w b o v :=
  ⟨by simp [loadVar, isAgg_one h ho, load, Sem.run, hc]⟩
theorem Ld.agg {P : Program} {t : TypeId} {d : TypeDesc} {z : Value} {sz bytes : Nat} (h : P.underlying t = some d) (ho : isOne d = false) (ht : Ty P t z sz bytes) {w : World} {b o : Nat} {cs : List Value} (hc : Cells w b o cs) (hl : cs.length = sz) : Ld P t w b o (.agg cs.toArray) :=
  ⟨by subst hl; simp [loadVar, isAgg_agg h ho, ht.sizeOf_, loadCells_run hc]⟩


/-! ### Operations that yield a value and leave the world alone -/
/-- In every world that meets S the operation yields v. -/
structure Y (P : Program) (n : Nat) (L : FL) (S : World → Prop) (op : Op) (ty : TypeId) (v : Value) : Prop where
  mk :: (out : ∀ a, Fr n L a → ∀ w, S w → ∀ dst pos after guard, (execOp a.eval ⟨dst, op, ty, pos, after, guard⟩).run P w = .ok (.value v) w)
section yields
variable {P : Program} {n : Nat} {L : FL} {S : World → Prop} {ty : TypeId}
theorem Y.move {x : Operand} {v : Value} (hx : ev L x = some v) : Y P n L S (.move x) ty v := ⟨fun a ha w _ dst pos after guard => by simp [execOp, ha.eval hx]⟩
theorem Y.assign {x : Operand} {v : Value} (hx : ev L x = some v) : Y P n L S (.assign x) ty v := ⟨fun a ha w _ dst pos after guard => by simp [execOp, ha.eval hx]⟩
theorem Y.pickT {c x y : Operand} {v : Value} (hc : ev L c = some (.bool true)) (hx : ev L x = some v) : Y P n L S (.pick c x y) ty v := ⟨fun a ha w _ dst pos after guard => by simp [execOp, ha.eval hc, ha.eval hx, asBool]⟩
theorem Y.pickF {c x y : Operand} {v : Value} (hc : ev L c = some (.bool false)) (hy : ev L y = some v) : Y P n L S (.pick c x y) ty v := ⟨fun a ha w _ dst pos after guard => by simp [execOp, ha.eval hc, ha.eval hy, asBool]⟩
theorem Y.not {x : Operand} {b : Bool} {t : TypeId} (hx : ev L x = some (.bool b)) : Y P n L S (.unOp .not t x) ty (.bool !b) := ⟨fun a ha w _ dst pos after guard => by simp [execOp, ha.eval hx, Op.unary]⟩
theorem Y.nilCheck {x : Operand} {ad : Addr} (hx : ev L x = some (.pointer (some ad))) : Y P n L S (.nilCheck x) ty (.pointer (some ad)) := ⟨fun a ha w _ dst pos after guard => by simp [execOp, ha.eval hx]⟩
theorem Y.extract {x : Operand} {i : Nat} {vs : Array Value} {v : Value} (hx : ev L x = some (.tuple vs)) (hv : vs[i]? = some v) : Y P n L S (.extract x i) ty v := ⟨fun a ha w _ dst pos after guard => by simp [execOp, ha.eval hx, Instr.extract, hv]⟩
theorem eqGuard_int (op : BinOp) (t : TypeId) (x y : Operand) (k k' : IntKind) (a b : Int) (P : Program) (w : World) : (eqGuard op t x y (.int k a) (.int k' b)).run P w = .ok () w := by
  unfold eqGuard; cases op <;> simp
theorem eqGuard_bool (op : BinOp) (t : TypeId) (x y : Operand) (a b : Bool) (P : Program) (w : World) : (eqGuard op t x y (.bool a) (.bool b)).run P w = .ok () w := by
  unfold eqGuard; cases op <;> simp
theorem eqGuard_pointer (op : BinOp) (t : TypeId) (x y : Operand) (a b : Option Addr) (P : Program) (w : World) : (eqGuard op t x y (.pointer a) (.pointer b)).run P w = .ok () w := by
  unfold eqGuard; cases op <;> simp
theorem eqGuard_string (op : BinOp) (t : TypeId) (x y : Operand) (a b : ByteArray) (P : Program) (w : World) : (eqGuard op t x y (.string a) (.string b)).run P w = .ok () w := by
  unfold eqGuard; cases op <;> simp
theorem eqGuard_slice (op : BinOp) (t : TypeId) (x y : Operand) (a b : Option Addr) (m c m' c' : Nat) (P : Program) (w : World) : (eqGuard op t x y (.slice a m c) (.slice b m' c')).run P w = .ok () w := by
  unfold eqGuard; cases op <;> simp
/-- Arithmetic whose result is told: z. -/
theorem Y.add {x y : Operand} {t t' : TypeId} {k : IntKind} {a b : Int} (z : Int) (hx : ev L x = some (.int k a)) (hy : ev L y = some (.int k b)) (hz : k.wrap (a + b) = z) : Y P n L S (.binOp .add t x y t') ty (.int k z) := ⟨fun f hf w _ dst pos after guard => by
  simp [execOp, hf.eval hx, hf.eval hy, eqGuard_int, binOp, Op.intArith, hz]⟩
theorem Y.sub {x y : Operand} {t t' : TypeId} {k : IntKind} {a b : Int} (z : Int) (hx : ev L x = some (.int k a)) (hy : ev L y = some (.int k b)) (hz : k.wrap (a - b) = z) : Y P n L S (.binOp .sub t x y t') ty (.int k z) := ⟨fun f hf w _ dst pos after guard => by
  simp [execOp, hf.eval hx, hf.eval hy, eqGuard_int, binOp, Op.intArith, hz]⟩
theorem Y.rem {x y : Operand} {t t' : TypeId} {k : IntKind} {a b : Int} (z : Int) (hx : ev L x = some (.int k a)) (hy : ev L y = some (.int k b)) (hb : b ≠ 0) (hz : a.tmod b = z) : Y P n L S (.binOp .rem t x y t') ty (.int k z) := ⟨fun f hf w _ dst pos after guard => by
  simp [execOp, hf.eval hx, hf.eval hy, eqGuard_int, binOp, Op.intDiv, hz, hb]⟩
theorem Y.quo {x y : Operand} {t t' : TypeId} {k : IntKind} {a b : Int} (z : Int) (hx : ev L x = some (.int k a)) (hy : ev L y = some (.int k b)) (hb : b ≠ 0) (hz : k.wrap (a.tdiv b) = z) : Y P n L S (.binOp .quo t x y t') ty (.int k z) := ⟨fun f hf w _ dst pos after guard => by
  simp [execOp, hf.eval hx, hf.eval hy, eqGuard_int, binOp, Op.intDiv, hz, hb]⟩
theorem Y.mul {x y : Operand} {t t' : TypeId} {k : IntKind} {a b : Int} (z : Int) (hx : ev L x = some (.int k a)) (hy : ev L y = some (.int k b)) (hz : k.wrap (a * b) = z) : Y P n L S (.binOp .mul t x y t') ty (.int k z) := ⟨fun f hf w _ dst pos after guard => by
  simp [execOp, hf.eval hx, hf.eval hy, eqGuard_int, binOp, Op.intArith, hz]⟩
theorem Y.lss {x y : Operand} {t t' : TypeId} {k : IntKind} {a b : Int} (r : Bool) (hx : ev L x = some (.int k a)) (hy : ev L y = some (.int k b)) (hr : decide (a < b) = r) : Y P n L S (.binOp .lss t x y t') ty (.bool r) := ⟨fun f hf w _ dst pos after guard => by
  simp [execOp, hf.eval hx, hf.eval hy, eqGuard_int, binOp, Op.intCmp, hr]⟩
theorem Y.leq {x y : Operand} {t t' : TypeId} {k : IntKind} {a b : Int} (r : Bool) (hx : ev L x = some (.int k a)) (hy : ev L y = some (.int k b)) (hr : decide (a ≤ b) = r) : Y P n L S (.binOp .leq t x y t') ty (.bool r) := ⟨fun f hf w _ dst pos after guard => by
  simp [execOp, hf.eval hx, hf.eval hy, eqGuard_int, binOp, Op.intCmp, hr]⟩
theorem Y.gtr {x y : Operand} {t t' : TypeId} {k : IntKind} {a b : Int} (r : Bool) (hx : ev L x = some (.int k a)) (hy : ev L y = some (.int k b)) (hr : decide (b < a) = r) : Y P n L S (.binOp .gtr t x y t') ty (.bool r) := ⟨fun f hf w _ dst pos after guard => by
  simp [execOp, hf.eval hx, hf.eval hy, eqGuard_int, binOp, Op.intCmp, GT.gt, hr]⟩
theorem Y.geq {x y : Operand} {t t' : TypeId} {k : IntKind} {a b : Int} (r : Bool) (hx : ev L x = some (.int k a)) (hy : ev L y = some (.int k b)) (hr : decide (b ≤ a) = r) : Y P n L S (.binOp .geq t x y t') ty (.bool r) := ⟨fun f hf w _ dst pos after guard => by
  simp [execOp, hf.eval hx, hf.eval hy, eqGuard_int, binOp, Op.intCmp, GE.ge, hr]⟩
theorem Y.eql {x y : Operand} {t t' : TypeId} {k : IntKind} {a b : Int} (r : Bool) (hx : ev L x = some (.int k a)) (hy : ev L y = some (.int k b)) (hr : decide (a = b) = r) : Y P n L S (.binOp .eql t x y t') ty (.bool r) := ⟨fun f hf w _ dst pos after guard => by
  subst hr
  by_cases h : a = b <;> simp [execOp, hf.eval hx, hf.eval hy, eqGuard_int, binOp, Op.intCmp, h]⟩
theorem Y.neq {x y : Operand} {t t' : TypeId} {k : IntKind} {a b : Int} (r : Bool) (hx : ev L x = some (.int k a)) (hy : ev L y = some (.int k b)) (hr : decide (a ≠ b) = r) : Y P n L S (.binOp .neq t x y t') ty (.bool r) := ⟨fun f hf w _ dst pos after guard => by
  subst hr
  by_cases h : a = b <;> simp [execOp, hf.eval hx, hf.eval hy, eqGuard_int, binOp, Op.intCmp, h]⟩
/-- Any comparison of whole numbers. -/
def cmpB : BinOp → Int → Int → Bool
  | .lss, a, b => decide (a < b)
  | .leq, a, b => decide (a ≤ b)
  | .gtr, a, b => decide (b < a)
  | .geq, a, b => decide (b ≤ a)
  | .eql, a, b => decide (a = b)
  | .neq, a, b => decide (a ≠ b)
  | _, _, _ => false
def isCmp : BinOp → Bool
  | .lss | .leq | .gtr | .geq | .eql | .neq => true
  | _ => false
theorem Y.cmp {op : BinOp} {x y : Operand} {t t' : TypeId} {k : IntKind} {a b : Int} {r : Bool} (hc : isCmp op = true) (hx : ev L x = some (.int k a)) (hy : ev L y = some (.int k b)) (hr : cmpB op a b = r) : Y P n L S (.binOp op t x y t') ty (.bool r) := by
  cases op <;> first | exact Y.lss r hx hy hr | exact Y.leq r hx hy hr | exact Y.gtr r hx hy hr | exact Y.geq r hx hy hr | exact Y.eql r hx hy hr | exact Y.neq r hx hy hr | cases hc
def cmpP : BinOp → Int → Int → Prop
  | .lss, a, b => a < b
  | .leq, a, b => a ≤ b
  | .gtr, a, b => b < a
  | .geq, a, b => b ≤ a
  | .eql, a, b => a = b
  | .neq, a, b => a ≠ b
  | _, _, _ => False
theorem Y.cmpT {op : BinOp} {x y : Operand} {t t' : TypeId} {k : IntKind} {a b : Int} (hc : isCmp op = true) (hx : ev L x = some (.int k a)) (hy : ev L y = some (.int k b)) (hr : cmpP op a b) : Y P n L S (.binOp op t x y t') ty (.bool true) := by
  cases op <;> first | exact Y.cmp rfl hx hy (decide_eq_true hr) | cases hc
theorem Y.cmpF {op : BinOp} {x y : Operand} {t t' : TypeId} {k : IntKind} {a b : Int} (hc : isCmp op = true) (hx : ev L x = some (.int k a)) (hy : ev L y = some (.int k b)) (hr : ¬ cmpP op a b) : Y P n L S (.binOp op t x y t') ty (.bool false) := by
  cases op <;> first | exact Y.cmp rfl hx hy (decide_eq_false hr) | cases hc
theorem equalIn_ptrNil {e t : TypeId} (ht : P.underlying t = some (.pointer e)) (d : Nat) (a : Option Addr) (w : World) : (Op.equalIn (d + 1) t (.pointer a) (.pointer none)).run P w = .ok a.isNone w := by
  cases a <;> simp [Op.equalIn, run_underlying ht]
theorem equalIn_slNil {e t : TypeId} (ht : P.underlying t = some (.slice e)) (d : Nat) (a : Option Addr) (m c : Nat) (w : World) : (Op.equalIn (d + 1) t (.slice a m c) (.slice none 0 0)).run P w = .ok a.isNone w := by
  cases a <;> simp [Op.equalIn, run_underlying ht]
theorem equalIn_bool {t : TypeId} (ht : P.underlying t = some .bool) (d : Nat) (a b : Bool) (w : World) : (Op.equalIn (d + 1) t (.bool a) (.bool b)).run P w = .ok (a == b) w := by
  simp [Op.equalIn, run_underlying ht]
theorem equal_ptrNil {e t : TypeId} (ht : P.underlying t = some (.pointer e)) (a : Option Addr) (w : World) : (Op.equal t (.pointer a) (.pointer none)).run P w = .ok a.isNone w := equalIn_ptrNil ht 9999 a w
theorem equal_slNil {e t : TypeId} (ht : P.underlying t = some (.slice e)) (a : Option Addr) (m c : Nat) (w : World) : (Op.equal t (.slice a m c) (.slice none 0 0)).run P w = .ok a.isNone w := equalIn_slNil ht 9999 a m c w
theorem equal_bool {t : TypeId} (ht : P.underlying t = some .bool) (a b : Bool) (w : World) : (Op.equal t (.bool a) (.bool b)).run P w = .ok (a == b) w := equalIn_bool ht 9999 a b w
theorem Y.eqlPtrNil {x y : Operand} {t t' e : TypeId} {a : Option Addr} (ht : P.underlying t = some (.pointer e)) (hx : ev L x = some (.pointer a)) (hy : ev L y = some (.pointer none)) : Y P n L S (.binOp .eql t x y t') ty (.bool a.isNone) := ⟨fun f hf w _ dst pos after guard => by
  simp [execOp, hf.eval hx, hf.eval hy, eqGuard_pointer, binOp, equal_ptrNil ht]⟩
theorem Y.neqPtrNil {x y : Operand} {t t' e : TypeId} {a : Option Addr} (ht : P.underlying t = some (.pointer e)) (hx : ev L x = some (.pointer a)) (hy : ev L y = some (.pointer none)) : Y P n L S (.binOp .neq t x y t') ty (.bool !a.isNone) := ⟨fun f hf w _ dst pos after guard => by
  simp [execOp, hf.eval hx, hf.eval hy, eqGuard_pointer, binOp, equal_ptrNil ht]⟩
theorem Y.eqlSlNil {x y : Operand} {t t' e : TypeId} {a : Option Addr} {m c : Nat} (ht : P.underlying t = some (.slice e)) (hx : ev L x = some (.slice a m c)) (hy : ev L y = some (.slice none 0 0)) : Y P n L S (.binOp .eql t x y t') ty (.bool a.isNone) := ⟨fun f hf w _ dst pos after guard => by
  simp [execOp, hf.eval hx, hf.eval hy, eqGuard_slice, binOp, equal_slNil ht]⟩
theorem Y.eqlBool {x y : Operand} {t t' : TypeId} {a b : Bool} (ht : P.underlying t = some .bool) (hx : ev L x = some (.bool a)) (hy : ev L y = some (.bool b)) : Y P n L S (.binOp .eql t x y t') ty (.bool (a == b)) := ⟨fun f hf w _ dst pos after guard => by
  simp [execOp, hf.eval hx, hf.eval hy, eqGuard_bool, binOp, equal_bool ht]⟩
theorem Y.neqBool {x y : Operand} {t t' : TypeId} {a b : Bool} (ht : P.underlying t = some .bool) (hx : ev L x = some (.bool a)) (hy : ev L y = some (.bool b)) : Y P n L S (.binOp .neq t x y t') ty (.bool !(a == b)) := ⟨fun f hf w _ dst pos after guard => by
  simp [execOp, hf.eval hx, hf.eval hy, eqGuard_bool, binOp, equal_bool ht]⟩
theorem Y.lenSl {x : Operand} {t e : TypeId} {a : Option Addr} {m c : Nat} (ht : P.underlying t = some (.slice e)) (hx : ev L x = some (.slice a m c)) : Y P n L S (.call { callee := .builtin .len, args := #[x], argTypes := #[t] }) ty (.int .i64 m) := ⟨fun f hf w _ dst pos after guard => by
  simp [execOp, resolve, invoke, builtin, Builtin.len_, hf.eval hx, run_underlying ht, goInt]⟩
theorem Y.lenStr {x : Operand} {t : TypeId} {s : ByteArray} (ht : P.underlying t = some .string) (hx : ev L x = some (.string s)) : Y P n L S (.call { callee := .builtin .len, args := #[x], argTypes := #[t] }) ty (.int .i64 s.size) := ⟨fun f hf w _ dst pos after guard => by
  simp [execOp, resolve, invoke, builtin, Builtin.len_, hf.eval hx, run_underlying ht, goInt]⟩
theorem Y.min {x y : Operand} {t t' : TypeId} {k : IntKind} {a b : Int} (z : Int) (hx : ev L x = some (.int k a)) (hy : ev L y = some (.int k b)) (hz : (if b < a then b else a) = z) : Y P n L S (.call { callee := .builtin .min, args := #[x, y], argTypes := #[t, t'] }) ty (.int k z) := ⟨fun f hf w _ dst pos after guard => by
  simp [execOp, resolve, invoke, builtin, Builtin.min_, Builtin.min2, hf.eval hx, hf.eval hy, hz]⟩
theorem Y.max {x y : Operand} {t t' : TypeId} {k : IntKind} {a b : Int} (z : Int) (hx : ev L x = some (.int k a)) (hy : ev L y = some (.int k b)) (hz : (if a < b then b else a) = z) : Y P n L S (.call { callee := .builtin .max, args := #[x, y], argTypes := #[t, t'] }) ty (.int k z) := ⟨fun f hf w _ dst pos after guard => by
  simp [execOp, resolve, invoke, builtin, Builtin.max_, Builtin.max2, hf.eval hx, hf.eval hy, hz]⟩
theorem Y.convInt {x : Operand} {s t : TypeId} {d : TypeDesc} {k k' : IntKind} {a : Int} (z : Int) (hs : P.underlying s = some d) (ht : P.underlying t = some (.int k')) (hx : ev L x = some (.int k a)) (hz : k'.wrap a = z) : Y P n L S (.convert s t x) ty (.int k' z) := ⟨fun f hf w _ dst pos after guard => by
  cases d <;> simp [execOp, hf.eval hx, Go.convert, run_underlying hs, run_underlying ht, Conv.intToInt, hz]⟩
/-- The address of a field. -/
theorem Y.field {x : Operand} {s : TypeId} {fs : Array Field} {i : Nat} {f : Field} {z : Value} {sz bytes b o : Nat} (hs : P.underlying s = some (.struct fs)) (hf : fs[i]? = some f) (ht : Ty P f.type z sz bytes) (hsz : Nat.blt 0 sz = true) (hx : ev L x = some (.pointer (some ⟨b, o, none⟩))) :
    Y P n L S (.fieldAddr s x i) ty (.pointer (some ⟨b, o + f.offset, none⟩)) := ⟨fun g hg w _ dst pos after guard => by
  have h0 : sz ≠ 0 := by have : 0 < sz := by simpa [Nat.blt_eq] using hsz
                         omega
  simp [execOp, Instr.fieldAt, run_underlying hs, hf, Instr.sureAddr, hg.eval hx, fieldPlace, ht.sizeOf_, h0, add_addr]⟩
/-- The address of an element of a slice: k, its number. -/
theorem Y.indexSl {x y : Operand} {t e : TypeId} {z : Value} {sz bytes b o m c : Nat} {kk : IntKind} {i : Int} (k : Nat) (ht : P.underlying t = some (.slice e)) (he : Ty P e z sz bytes) (hx : ev L x = some (.slice (some ⟨b, o, none⟩) m c)) (hy : ev L y = some (.int kk i)) (hi : i = (k : Int)) (hk : k < m) :
    Y P n L S (.indexAddr t x y) ty (.pointer (some ⟨b, o + k * sz, none⟩)) := ⟨fun g hg w _ dst pos after guard => by
  subst hi
  have h1 : ¬ m ≤ k := by omega
  simp [execOp, Instr.indexAt, run_underlying ht, asIntOf, hg.eval hx, hg.eval hy, h1, he.sizeOf_, add_addr]⟩
/-- The address of an element of an array behind a pointer. -/
theorem Y.indexArr {x y : Operand} {t e : TypeId} {z : Value} {sz bytes b o m : Nat} {kk : IntKind} {i : Int} (k : Nat) (ht : P.underlying t = some (.array m e)) (he : Ty P e z sz bytes) (hx : ev L x = some (.pointer (some ⟨b, o, none⟩))) (hy : ev L y = some (.int kk i)) (hi : i = (k : Int)) (hk : k < m) :
    Y P n L S (.indexAddr t x y) ty (.pointer (some ⟨b, o + k * sz, none⟩)) := ⟨fun g hg w _ dst pos after guard => by
  subst hi
  have h1 : ¬ m ≤ k := by omega
  simp [execOp, Instr.indexAt, run_underlying ht, Instr.sureAddr, asIntOf, hg.eval hx, hg.eval hy, h1, he.sizeOf_, add_addr]⟩
theorem Y.load {x : Operand} {t : TypeId} {b o : Nat} {v : Value} (hx : ev L x = some (.pointer (some ⟨b, o, none⟩))) (hl : ∀ w, S w → Ld P t w b o v) : Y P n L S (.load t x) ty v := ⟨fun g hg w hw dst pos after guard => by
  simp [execOp, Instr.loadAt, Instr.sureAddr, hg.eval hx, (hl w hw).out]⟩
/-- A struct's value out of its parts: at a struct type, its zero value's cells and its fields' places. -/
structure Places (P : Program) (t : TypeId) (zs : Array Value) (places : Array (Nat × Nat)) : Prop where
  mk :: (out : ∀ (pv : List (Nat × Value)) (cs : Array Value), Instr.fill (places[·]?) zs pv = some cs → ∀ w : World, (Instr.build t pv.toArray).run P w = .ok (.agg cs) w)
theorem Places.of {t : TypeId} {fs : Array Field} {z : Value} {sz bytes : Nat} {places : Array (Nat × Nat)} (ht : P.underlying t = some (.struct fs)) (he : Ty P t z sz bytes)
    (hpl : ∀ w, (fs.mapM (fun f => Prod.mk f.offset <$> sizeOf f.type)).run P w = .ok places w) : Places P t z.cells places := ⟨fun pv cs hc w => by
  simp [Instr.build, he.zero_, run_underlying ht, hpl, hc]⟩
def evp (L : FL) : List (Nat × Operand) → Option (List (Nat × Value))
  | [] => some []
  | p :: r => match ev L p.2 with
    | some v => match evp L r with
      | some vs => some ((p.1, v) :: vs)
      | none => none
    | none => none
theorem Fr.evalp {n : Nat} {L : FL} {a : Act} (h : Fr n L a) : ∀ {xs : List (Nat × Operand)} {vs : List (Nat × Value)}, evp L xs = some vs → xs.map (fun p => (p.1, a.eval p.2)) = vs
  | [], vs, hx => by simpa [evp] using hx
  | x :: r, vs, hx => by
    unfold evp at hx
    cases h1 : ev L x.2 with
    | none => rw [h1] at hx; cases hx
    | some v =>
      rw [h1] at hx
      cases h2 : evp L r with
      | none => rw [h2] at hx; cases hx
      | some us =>
        rw [h2] at hx
        cases hx
        rw [List.map_cons, h.eval h1, h.evalp h2]
theorem Y.build {t : TypeId} {zs : Array Value} {places : Array (Nat × Nat)} {ps : List (Nat × Operand)} {pv : List (Nat × Value)} {cs : List Value} (hb : Places P t zs places) (hp : evp L ps = some pv) (hc : Instr.fill (places[·]?) zs pv = some cs.toArray) :
    Y P n L S (.build t ps.toArray) ty (.agg cs.toArray) := ⟨fun g hg w _ dst pos after guard => by
  simp [execOp, hb.out pv cs.toArray hc, hg.evalp hp]⟩
/-- A cut of a slice. -/
theorem Y.slice {x : Operand} {t e : TypeId} {z : Value} {sz bytes b o m c : Nat} {lo hi mx : Option Operand} (l h k : Nat) (ht : P.underlying t = some (.slice e)) (he : Ty P e z sz bytes) (hx : ev L x = some (.slice (some ⟨b, o, none⟩) m c))
    (hbd : ∀ f, Fr n L f → ∀ w, (Instr.sliceBounds true m c (lo.map f.eval) (hi.map f.eval) (mx.map f.eval)).run P w = .ok (l, h, k) w) :
    Y P n L S (.slice t x lo hi mx) ty (.slice (some ⟨b, if k = l then o else o + l * sz, none⟩) (h - l) (k - l)) := ⟨fun g hg w _ dst pos after guard => by
  by_cases hkl : k = l <;> simp [execOp, Instr.sliceAt, Instr.slice, run_underlying ht, hg.eval hx, hbd g hg, he.sizeOf_, hkl, add_addr]⟩
theorem Y.sliceNil {x : Operand} {t e : TypeId} {z : Value} {sz bytes m c : Nat} {lo hi mx : Option Operand} (l h k : Nat) (ht : P.underlying t = some (.slice e)) (he : Ty P e z sz bytes) (hx : ev L x = some (.slice none m c))
    (hbd : ∀ f, Fr n L f → ∀ w, (Instr.sliceBounds true m c (lo.map f.eval) (hi.map f.eval) (mx.map f.eval)).run P w = .ok (l, h, k) w) :
    Y P n L S (.slice t x lo hi mx) ty (.slice none (h - l) (k - l)) := ⟨fun g hg w _ dst pos after guard => by
  by_cases hkl : k = l <;> simp [execOp, Instr.sliceAt, Instr.slice, run_underlying ht, hg.eval hx, hbd g hg, he.sizeOf_, hkl]⟩
end yields

section
variable {P : Program} {n : Nat} {L : FL} {w : World} {ops : Array Oper} {Q : Exit → Act → World → Prop} {rest : List Oper}
theorem W.y {d : Nat} {op : Op} {ty : TypeId} {pos : String} {after : Array Edge} {g : Option (Nat × Bool)} {v : Value} (hg : on ops L g = some true) (hd : Nat.blt d n = true) (hy : Y P n L (fun w' => w' = w) op ty v)
    (h : W P n ops Q rest ((d, v) :: L) w) : W P n ops Q (⟨some d, op, ty, pos, after, g⟩ :: rest) L w := ⟨fun a ha => wpList_step (fun K hK => by
  rw [wanted_of (o := ⟨some d, op, ty, pos, after, g⟩) ha hg, if_pos rfl]
  unfold Oper.wp
  rw [hy.out a ha w rfl, Oper.upon_value]
  exact hK _ _ (h.out _ (ha.put v hd)))⟩
/-- A guarded operation that isn't carried out. -/
theorem W.off {d : Nat} {op : Op} {ty : TypeId} {pos : String} {after : Array Edge} {g : Option (Nat × Bool)} (hg : on ops L g = some false) (hd : Nat.blt d n = true)
    (h : W P n ops Q rest ((d, undef) :: L) w) : W P n ops Q (⟨some d, op, ty, pos, after, g⟩ :: rest) L w := ⟨fun a ha => wpList_step (fun K hK => by
  rw [wanted_of (o := ⟨some d, op, ty, pos, after, g⟩) ha hg, if_neg (by simp)]
  exact hK _ _ (h.out _ (ha.put undef hd)))⟩
end

end Go.Proofs.Ytkehmehodgcdfaa.Vb
