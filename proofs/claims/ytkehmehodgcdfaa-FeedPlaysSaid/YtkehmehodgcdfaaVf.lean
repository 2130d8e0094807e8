/- A law's row: its arguments opened, its post shut. No program is named here. -/
import Derived.Test.YtkehmehodgcdfaaVe
import Derived.ProofKit
import Derived.SizedLaws
import Derived.OpenShut
namespace Go.Proofs.Ytkehmehodgcdfaa.Vb
open Go.RowKit Go.ChangeShapes

/-- The blocks that stood. -/
def Old (w : World) : Nat → Prop := fun k => k < w.heap.size
theorem Ty.cellsOf {P : Program} {t : TypeId} {z : Value} {sz bytes : Nat} (h : Ty P t z sz bytes) : P.cellsOf t = sz := by
  obtain ⟨i, hi, _, hs, _⟩ := h.get
  simp [Program.cellsOf, hi, hs]
theorem Ty.bytesOf {P : Program} {t : TypeId} {z : Value} {sz bytes : Nat} (h : Ty P t z sz bytes) : P.bytesOf t = bytes := by
  obtain ⟨i, hi, _, _, hs⟩ := h.get
  simp [Program.bytesOf, hi, hs]
/-- What is read of type t says some y. -/
structure Opens {α : Type} (P : Program) (t : TypeId) (R : (Nat → Prop) → World → List Value → α → Prop) : Prop where
  mk :: (out : ∀ {H : Type} (enc : TypeId × Value → H) (W : World) (fuel : Nat) (cs : List Value) (x : DataW H × List MemPlace), DataW.trod enc P W 0 (fun _ => true) true fuel t cs = some x → (∀ n ∈ x.1.weights P t, n ≤ reachBytes) → ∃ y, R (Old W) W cs y)
theorem Opens.int {P : Program} {t : TypeId} {k : IntKind} (ht : P.underlying t = some (.int k)) : Opens P t (fun _ _ cs (x : Int) => cs = [.int k x] ∧ (Lit.int k x).wf = true) := ⟨fun enc W fuel cs x h _ => by
  cases fuel with
  | zero => simp [DataW.trod] at h
  | succ n =>
    unfold DataW.trod at h
    rw [ht] at h
    split at h <;> simp_all⟩
theorem Opens.bool {P : Program} {t : TypeId} (ht : P.underlying t = some .bool) : Opens P t (fun _ _ cs (x : Bool) => cs = [.bool x]) := ⟨fun enc W fuel cs x h _ => by
  cases fuel with
  | zero => simp [DataW.trod] at h
  | succ n =>
    unfold DataW.trod at h
    rw [ht] at h
    split at h <;> simp_all⟩
theorem Opens.string {P : Program} {t : TypeId} (ht : P.underlying t = some .string) : Opens P t (fun _ _ cs (x : ByteArray) => cs = [.string x] ∧ x.size ≤ 140737488351232) := ⟨fun enc W fuel cs x h hw => by
  cases fuel with
  | zero => simp [DataW.trod] at h
  | succ n =>
    unfold DataW.trod at h
    rw [ht] at h
    split at h <;> simp_all
    obtain ⟨h1, rfl⟩ := h
    have := hw _ (by simp [DataW.weights]; rfl)
    simpa [reachBytes] using this⟩
theorem weights_mem_all {H : Type} {P : Program} {e : TypeId} : ∀ {ds : List (DataW H)} {j : Nat} {d : DataW H}, ds[j]? = some d → ∀ n ∈ d.weights P e, n ∈ DataW.weightsAll P e ds
  | d0 :: ds, 0, d, hd, n, hn => by
    simp only [List.getElem?_cons_zero, Option.some.injEq] at hd
    subst hd
    simp only [DataW.weightsAll, List.mem_append]
    exact .inl hn
  | d0 :: ds, j + 1, d, hd, n, hn => by
    simp only [List.getElem?_cons_succ] at hd
    simp only [DataW.weightsAll, List.mem_append]
    exact .inr (weights_mem_all hd n hn)
  | [], _, _, hd, _, _ => by simp at hd
theorem cells_of {w : World} {a : Addr} {k sz : Nat} {cs : List Value} (hsz : 0 < sz) (h : w.cells? 0 (a.add (k * sz)) sz = some cs) : (k = 0 → a.spot = none) ∧ a.block < w.heap.size ∧ cs.length = sz ∧ Cells w a.block (a.off + k * sz) cs := by
  obtain ⟨_, hl, hc⟩ := World.cells?_some h
  obtain ⟨b, o, sp⟩ := a
  have h0 := hc 0 hsz
  have hlt : 0 < cs.length := by omega
  rw [List.getElem?_eq_getElem hlt, add_zero_addr] at h0
  have hsp : ((⟨b, o, sp⟩ : Addr).add (k * sz)).spot = none := World.cell?_spot h0
  have e : (⟨b, o, sp⟩ : Addr).add (k * sz) = ⟨b, o + k * sz, none⟩ := by
    unfold Addr.add at hsp ⊢
    split at hsp
    · rename_i h1; rw [if_pos h1]; simp only at hsp; subst hsp; rw [h1]; rfl
    · rename_i h1; rw [if_neg h1]
  have hb := World.block_lt_of_cell? w _ h0
  rw [e] at hb hc
  refine ⟨fun hk => ?_, hb, hl, fun j v hj => ?_⟩
  · subst hk
    rw [Nat.zero_mul, add_zero_addr] at hsp
    exact hsp
  · have hjl : j < sz := by have := (List.getElem?_eq_some_iff.1 hj).1; omega
    have := hc j hjl
    rw [hj, add_addr] at this
    exact this
theorem Opens.slice {α : Type} {P : Program} {t e : TypeId} {z : Value} {sz bytes : Nat} {R : (Nat → Prop) → World → List Value → α → Prop} [ht : SlC P t e] [he : TyC P e z sz bytes] (hR : Opens P e R) :
    Opens P t (fun F w cs xs => ∃ v, cs = [v] ∧ Sl F sz bytes (R F) w v xs) := ⟨fun {H} enc W fuel cs x h hw => by
  have hc := he.out.cellsOf
  rcases DataW.trod_slice ht.out h with ⟨rfl, rfl⟩ | ⟨a, len, cap, elems, rest, n, rfl, rfl, rfl, _, hl, hm, hlen, hel, hsp, _⟩
  · exact ⟨[], _, rfl, Sl.nil⟩
  · obtain ⟨hrl, _⟩ := hsp rfl
    have hwt := hw ((elems.length + rest.length) * P.bytesOf e) (by simp [DataW.weights, ht.out])
    rw [he.out.bytesOf] at hwt
    have hb : len * bytes ≤ 140737488351232 := by
      have : reachBytes = 140737488351232 := rfl
      rw [this] at hwt
      exact Nat.le_trans (Nat.mul_le_mul_right bytes (by omega)) hwt
    have each : ∀ i, i < len → ∃ y cs, W.cells? 0 (a.add (i * sz)) sz = some cs ∧ R (Old W) W cs y := fun i hi => by
      have h1 := hel i hi
      rw [hc] at h1
      have hi' : i < elems.length := by omega
      rw [List.getElem?_eq_getElem hi'] at h1
      obtain ⟨cs, h2, h3⟩ := Option.bind_eq_some_iff.1 h1
      obtain ⟨y, hy⟩ := hR.out enc W n cs _ h3 (fun m hm => hw m (by
        simp only [DataW.weights, ht.out, List.mem_cons, List.mem_append]
        exact .inr (.inl (weights_mem_all (j := i) (by simp [hi']) m hm))))
      exact ⟨y, cs, h2, hy⟩
    by_cases h0 : len = 0
    · subst h0
      exact ⟨[], _, rfl, some a, cap, rfl, by simp, fun e => by simp at e, by simp, fun i x hi => by simp at hi⟩
    · obtain ⟨y0, _, _, _⟩ := each 0 (by omega)
      have : ∀ i : Nat, ∃ y : α, i < len → ∃ cs, W.cells? 0 (a.add (i * sz)) sz = some cs ∧ R (Old W) W cs y := fun i => by
        by_cases hi : i < len
        · obtain ⟨y, h⟩ := each i hi; exact ⟨y, fun _ => h⟩
        · exact ⟨y0, fun h => absurd h hi⟩
      obtain ⟨g, hg⟩ := Classical.axiomOfChoice this
      have hxl : ((List.range len).map g).length = len := by simp
      obtain ⟨cs0, c1, _⟩ := hg 0 (by omega)
      have hsp := (cells_of he.pos c1).1 rfl
      refine ⟨(List.range len).map g, _, rfl, some a, cap, by rw [hxl], by rw [hxl]; exact hl, fun e => by simp at e, by rw [hxl]; exact hb, fun i x hi => ?_⟩
      have hil : i < len := by have := (List.getElem?_eq_some_iff.1 hi).1; simpa using this
      have hx : x = g i := by simpa [hil] using hi.symm
      subst hx
      obtain ⟨cs, d1, d2⟩ := hg i hil
      obtain ⟨_, hb1, hl1, hc1⟩ := cells_of he.pos d1
      obtain ⟨b, o, sp⟩ := a
      simp only at hsp
      subst hsp
      exact ⟨b, o, cs, rfl, hb1, hl1, hc1, d2⟩⟩
theorem weights_mem_at {H : Type} {P : Program} {e : TypeId} {ds : List (DataW H × List MemPlace)} {j : Nat} {d : DataW H × List MemPlace} (hd : ds[j]? = some d) : ∀ n ∈ d.1.weights P e, n ∈ DataW.weightsAll P e (ds.map (·.1)) :=
  weights_mem_all (j := j) (by rw [List.getElem?_map, hd]; rfl)
/-- An array, element by element. -/
theorem Opens.array {α : Type} {P : Program} {t e : TypeId} {m : Nat} {z : Value} {sz bytes : Nat} {R : (Nat → Prop) → World → List Value → α → Prop} (ht : P.underlying t = some (.array m e)) [he : TyC P e z sz bytes] (hR : Opens P e R) :
    Opens P t (fun F w cs (_ : Unit) => cs.length = P.cellsOf t ∧ ∀ i, i < m → ∃ x, R F w ((cs.drop (i * sz)).take sz) x) := ⟨fun {H} enc W fuel cs x h hw => by
  obtain ⟨xs, n, rfl, rfl, hl, hxl, hel⟩ := DataW.trod_array ht h
  rw [he.out.cellsOf] at hel
  refine ⟨(), hl, fun i hi => ?_⟩
  have h1 := hel i hi
  rw [List.getElem?_eq_getElem (by omega)] at h1
  exact hR.out enc W n _ _ h1 (fun k hk => hw k (by
    simp only [DataW.weights, ht]
    exact weights_mem_at (j := i) (List.getElem?_eq_getElem (by omega)) k hk))⟩
theorem Opens.imp {α β : Type} {P : Program} {t : TypeId} {R : (Nat → Prop) → World → List Value → α → Prop} {R' : (Nat → Prop) → World → List Value → β → Prop} (h : Opens P t R) (hr : ∀ F w cs x, R F w cs x → ∃ y, R' F w cs y) : Opens P t R' := ⟨fun enc W fuel cs x h1 h2 => by
  obtain ⟨y, hy⟩ := h.out enc W fuel cs x h1 h2
  exact hr _ _ _ _ hy⟩
/-- A struct, field by field. -/
theorem trod_fields {H : Type} {enc : TypeId × Value → H} {P : Program} {W : World} {t : TypeId} {fs : Array Field} {fuel : Nat} {cs : List Value} {x : DataW H × List MemPlace} (ht : P.underlying t = some (.struct fs)) (h : DataW.trod enc P W 0 (fun _ => true) true fuel t cs = some x) :
    ∃ n, cs.length = P.cellsOf t ∧ ∀ (i : Nat) (f : Field), fs[i]? = some f → ∃ y, DataW.trod enc P W 0 (fun _ => true) true n f.type ((cs.drop f.offset).take (P.cellsOf f.type)) = some y ∧ ∀ m ∈ y.1.weights P f.type, m ∈ x.1.weights P t := by
  cases fuel with
  | zero => simp [DataW.trod] at h
  | succ n =>
    have h' : (if cs.length = P.cellsOf t then (fs.toList.mapM fun f => DataW.trod enc P W 0 (fun _ => true) true n f.type ((cs.drop f.offset).take (P.cellsOf f.type))).map fun xs => ((.agg (xs.map (·.1)) : DataW H), xs.flatMap (·.2)) else none) = some x := by
      have h0 := h
      unfold DataW.trod at h0
      rw [ht] at h0
      exact h0
    split at h'
    · rename_i h1
      obtain ⟨xs, h2, rfl⟩ := Option.map_eq_some_iff.1 h'
      refine ⟨n, h1, fun i f hf => ?_⟩
      have hf' : fs.toList[i]? = some f := by simpa using hf
      have h3 := mapM_some_get h2 i f hf'
      have hlen := mapM_some_length h2
      have hi : i < xs.length := by rw [hlen]; exact (List.getElem?_eq_some_iff.1 hf').1
      rw [List.getElem?_eq_getElem hi] at h3
      refine ⟨xs[i], h3, fun m hm => ?_⟩
      simp only [DataW.weights, ht]
      refine DataW.weights_mem_each (j := i) (t := f.type) (d := xs[i].1) ?_ ?_ m hm
      · simp [hf]
      · simp [List.getElem?_eq_getElem hi]
    · cases h'
/-- Arguments: each of them. -/
theorem trod_all_stay {H : Type} {enc : TypeId × Value → H} {P : Program} (hl : laidOutB P = true) {W W' : World} (hb : Below W.heap.size W W') : ∀ (ts : List TypeId) (vs : List Value) (ds : List (DataW H)) (p : List MemPlace), (∀ t ∈ ts, P.readableRec t = true ∧ t < P.types.size) →
    DataW.TrodAll enc P W 0 (fun _ => true) true ts vs ds p → (∀ x ∈ p, x.block < W.heap.size) → DataW.TrodAll enc P W' 0 (fun b => decide (b < W.heap.size)) true ts vs ds p
  | [], vs, ds, p, _, h, _ => by
    obtain ⟨rfl, rfl, rfl⟩ := trodAll_nil h
    rfl
  | t :: ts, vs, ds, p, ht, h, hp => by
    obtain ⟨v, vs', d, ds', p1, p2, rfl, rfl, rfl, h1, h2⟩ := trodAll_cons h
    have h3 := ht t (by simp)
    exact ⟨p1, p2, Below.trod hl h3.1 h3.2 h1 hb (fun x hx => hp x (by simp [hx])), trod_all_stay hl hb ts vs' ds' p2 (fun t ht' => ht t (by simp [ht'])) h2 (fun x hx => hp x (by simp [hx])), rfl⟩
theorem law_post {H : Type} {enc : TypeId × Value → H} {P : Program} {f : Func} {s : ChangeSpec} {W W' : World} {args : Array Value} {ds gs : List (DataW H)} {before : List MemPlace} {tb : TypeId} (hl : laidOutB P = true) (hts : ∀ t ∈ f.params.toList, P.readableRec t = true ∧ t < P.types.size)
    (hv : s.vars = []) (hf : f.resultTypes = #[tb]) (htb : P.underlying tb = some .bool) (hW : DataW.Whole enc P f.params.toList s.vars false W args.toList ds gs before) (hs : s.fn H (ds ++ gs) = { results := [.lit (.bool true)], args := ds }) (hk : Below W.heap.size W W') :
    s.post enc P f false true false false W args (.bool true) W' := by
  have hW' := hW
  obtain ⟨p, q, hA, hV, rfl, hfz, hnd⟩ := hW
  have hlt := hW'.lt
  rw [hv] at hV
  obtain ⟨rfl, rfl⟩ := trodVars_none hV
  refine ⟨ds, [], p ++ [], [], p, [], hW', ?_, ?_, ?_, ?_, fun h => by cases h⟩
  · rw [hs, hf]
    exact trodAll_mk1 (shut_bool htb true)
  · rw [hs]
    exact trod_all_stay hl hk _ _ _ _ hts hA (fun x hx => hlt x (by simp [hx]))
  · rw [hv, hs]; rfl
  · exact hk.frame _
/-- An argument, opened: j its place. -/
theorem open_arg {α : Type} {H : Type} {enc : TypeId × Value → H} {P : Program} {W : World} {t : TypeId} {R : (Nat → Prop) → World → List Value → α → Prop} (hR : Opens P t R) {ts : List TypeId} {ds : List (DataW H)} (hsz : (DataW.weightsEach P ts ds).all (· ≤ reachBytes) = true) (j : Nat) {v : Value} {d : DataW H} {p : List MemPlace}
    (ht : ts[j]? = some t) (hd : ds[j]? = some d) (h : DataW.Trod enc P W 0 (fun _ => true) true t v d p) : ∃ y, R (Old W) W v.cells.toList y := by
  obtain ⟨fuel, hf⟩ := h
  exact hR.out enc W fuel _ _ hf (fun n hn => by simpa using List.all_eq_true.1 hsz n (DataW.weights_mem_each ht hd n hn))
theorem Meets.calls {P : Program} {f : FuncId} {vs : Array Value} {w : World} {R : Value → World → Prop} (h : Meets P f vs w R) {R' : Ending → World → Prop} (hr : ∀ v w', R v w' → R' (.returned v) w') : Calls P f vs w R' :=
  h.out.mono fun e w' he => by cases e <;> first | exact hr _ _ he | exact he.elim
end Go.Proofs.Ytkehmehodgcdfaa.Vb
