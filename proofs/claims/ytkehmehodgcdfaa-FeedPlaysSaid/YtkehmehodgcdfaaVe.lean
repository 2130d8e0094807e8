/- Data in memory: slices read element by element; what stays readable. No program is named here. -/
import Derived.Test.YtkehmehodgcdfaaVd
namespace Go.Proofs.Ytkehmehodgcdfaa.Vb
open Go.RowKit

/-- v is a slice of sz cells an element that reads as xs; R tells what an element's cells say; F: the blocks looked at. -/
def Sl {α : Type} (F : Nat → Prop) (sz bytes : Nat) (R : World → List Value → α → Prop) (w : World) (v : Value) (xs : List α) : Prop :=
  ∃ A c, v = .slice A xs.length c ∧ xs.length ≤ c ∧ (A = none → c = 0) ∧ xs.length * bytes ≤ 140737488351232 ∧
    ∀ i x, xs[i]? = some x → ∃ b o cs, A = some ⟨b, o, none⟩ ∧ F b ∧ cs.length = sz ∧ Cells w b (o + i * sz) cs ∧ R w cs x
/-- What an element says stays while the blocks of F do. -/
def Stable {α : Type} (F : Nat → Prop) (R : World → List Value → α → Prop) : Prop :=
  ∀ (S : Nat → Prop) (w w' : World) (cs : List Value) (x : α), Keep S w w' → (∀ k, F k → ¬ S k) → R w cs x → R w' cs x
theorem Sl.keep {α : Type} {F : Nat → Prop} {sz bytes : Nat} {R : World → List Value → α → Prop} (hR : Stable F R) {S : Nat → Prop} {w w' : World} (k : Keep S w w') (hF : ∀ k, F k → ¬ S k) {v : Value} {xs : List α} (h : Sl F sz bytes R w v xs) : Sl F sz bytes R w' v xs := by
  obtain ⟨A, c, hv, hc, hn, hb, he⟩ := h
  refine ⟨A, c, hv, hc, hn, hb, fun i x hi => ?_⟩
  obtain ⟨b, o, cs, h1, h2, h3, h4, h5⟩ := he i x hi
  exact ⟨b, o, cs, h1, h2, h3, k.cells h4 (hF b h2), hR S w w' cs x k hF h5⟩
theorem Sl.mono {α : Type} {F G : Nat → Prop} {sz bytes : Nat} {R R' : World → List Value → α → Prop} {w : World} (hF : ∀ k, F k → G k) (hR : ∀ cs x, R w cs x → R' w cs x) {v : Value} {xs : List α} (h : Sl F sz bytes R w v xs) : Sl G sz bytes R' w v xs := by
  obtain ⟨A, c, hv, hc, hn, hb, he⟩ := h
  refine ⟨A, c, hv, hc, hn, hb, fun i x hi => ?_⟩
  obtain ⟨b, o, cs, h1, h2, h3, h4, h5⟩ := he i x hi
  exact ⟨b, o, cs, h1, hF b h2, h3, h4, hR cs x h5⟩
theorem Sl.len {α : Type} {F : Nat → Prop} {sz bytes : Nat} {R : World → List Value → α → Prop} {w : World} {v : Value} {xs : List α} (h : Sl F sz bytes R w v xs) : xs.length * bytes ≤ 140737488351232 := by
  obtain ⟨A, c, hv, hc, hn, hb, he⟩ := h
  exact hb
/-- The slice's own shape, and its elements. -/
theorem Sl.open_ {α : Type} {F : Nat → Prop} {sz bytes : Nat} {R : World → List Value → α → Prop} {w : World} {v : Value} {xs : List α} (h : Sl F sz bytes R w v xs) : ∃ A c, v = .slice A xs.length c ∧ xs.length ≤ c ∧ (A = none → c = 0) ∧ xs.length * bytes ≤ 140737488351232 ∧
    ∀ i (hi : i < xs.length), ∃ b o cs, A = some ⟨b, o, none⟩ ∧ F b ∧ cs.length = sz ∧ Cells w b (o + i * sz) cs ∧ R w cs xs[i] := by
  obtain ⟨A, c, hv, hc, hn, hb, he⟩ := h
  exact ⟨A, c, hv, hc, hn, hb, fun i hi => he i _ (List.getElem?_eq_getElem hi)⟩
theorem Sl.open1 {α : Type} {F : Nat → Prop} {sz bytes : Nat} {R : World → List Value → α → Prop} {w : World} {v : Value} {x : α} (h : Sl F sz bytes R w v [x]) : ∃ b o c cs, v = .slice (some ⟨b, o, none⟩) 1 c ∧ F b ∧ cs.length = sz ∧ Cells w b (o + 0 * sz) cs ∧ R w cs x := by
  obtain ⟨A, c, rfl, _, _, _, he⟩ := h
  obtain ⟨b, o, cs, rfl, h2, h3, h4, h5⟩ := he 0 x rfl
  exact ⟨b, o, c, cs, rfl, h2, h3, h4, h5⟩
theorem Sl.nil {α : Type} {F : Nat → Prop} {sz bytes : Nat} {R : World → List Value → α → Prop} {w : World} : Sl F sz bytes R w (.slice none 0 0) ([] : List α) :=
  ⟨none, 0, rfl, Nat.le_refl _, fun _ => rfl, by simp, fun i x hi => by simp at hi⟩
/-- A slice that ends where its elements do. -/
theorem Sl.clip {α : Type} {F : Nat → Prop} {sz bytes : Nat} {R : World → List Value → α → Prop} {w : World} {A : Option Addr} {n c : Nat} {xs : List α} (h : Sl F sz bytes R w (.slice A n c) xs) : Sl F sz bytes R w (.slice A n n) xs := by
  obtain ⟨A', c', hv, hc, hn, hb, he⟩ := h
  simp only [Value.slice.injEq] at hv
  obtain ⟨rfl, rfl, rfl⟩ := hv
  exact ⟨A, xs.length, rfl, Nat.le_refl _, fun e => by have := hn e; omega, hb, he⟩
/-- A row of one's own that is read. -/
theorem Sl.of_own {α : Type} {F : Nat → Prop} {sz bytes base : Nat} {e : TypeId} {R : World → List Value → α → Prop} {w : World} {v : Value} {n : Nat} {cs : List Value} {xs : List α} (h : w.ownsRow base e sz v n cs) (hn : xs.length = n) (hb : n * bytes ≤ 140737488351232)
    (hF : ∀ b, v.ownBlock = some b → F b) (hR : ∀ i x, xs[i]? = some x → R w ((cs.drop (i * sz)).take sz) x) : Sl F sz bytes R w v xs := by
  subst hn
  have h1 := h.1
  rcases h.2 with ⟨rfl, h0⟩ | ⟨g, cap, cur, rfl, hg, hh, hcap, hm, hs, ht⟩
  · have : xs = [] := List.eq_nil_of_length_eq_zero h0
    subst this
    exact Sl.nil
  · refine ⟨_, cap, rfl, hcap, fun e => by simp at e, hb, fun i x hi => ⟨g, 0, (cs.drop (i * sz)).take sz, rfl, hF g rfl, ?_, fun j u hj => ?_, hR i x hi⟩⟩
    · have hlt := (List.getElem?_eq_some_iff.1 hi).1
      have : (i + 1) * sz ≤ xs.length * sz := Nat.mul_le_mul_right sz hlt
      rw [Nat.add_mul, Nat.one_mul] at this
      simp; omega
    · have hjl : j < sz := by have := (List.getElem?_eq_some_iff.1 hj).1; simp at this; omega
      rw [List.getElem?_take_of_lt hjl, List.getElem?_drop] at hj
      have hc := h.cells (g := g) rfl (i * sz + j) u hj
      rw [add_addr] at hc
      rw [Nat.zero_add]
      rwa [Nat.zero_add] at hc
theorem own_block_lt {w : World} {base : Nat} {e : TypeId} {sz n : Nat} {v : Value} {xs : List Value} (h : w.ownsRow base e sz v n xs) : ∀ b, v.ownBlock = some b → base ≤ b ∧ b < w.heap.size := h.lt
/-- Blocks that came between two worlds. -/
def Fresh (w w' : World) : Nat → Prop := fun k => w.heap.size ≤ k ∧ k < w'.heap.size
theorem Fresh.mono {w w1 w2 : World} (h : w1.heap.size ≤ w2.heap.size) : ∀ k, Fresh w w1 k → Fresh w w2 k := fun k hk => ⟨hk.1, by have := hk.2; omega⟩
theorem Fresh.later {w w1 w2 : World} (h : w.heap.size ≤ w1.heap.size) : ∀ k, Fresh w1 w2 k → Fresh w w2 k := fun k hk => ⟨by have := hk.1; omega, hk.2⟩
/-- A store into a new block, or none that stood before: what stood stays. -/
theorem Keep.far {S : Nat → Prop} {w0 w w' : World} (h : Keep Non w0 w) (k : Keep S w w') (hS : ∀ i, S i → w0.heap.size ≤ i) : Keep Non w0 w' := h.trans k (fun i hi h => h.elim id (fun ht => absurd (hS i ht) (by omega)))
theorem Put.size_le {w w' : World} {b : Nat} {t : TypeId} {cs : List Value} (h : Put w w' b t cs) : w.heap.size ≤ w'.heap.size := Nat.le_of_eq h.size.symm
theorem Keep.alloc {w0 w w' : World} {b : Nat} {t : TypeId} {cs : List Value} (h : Keep Non w0 w) (k : New w w' b t cs) : Keep Non w0 w' := h.then k.keep
theorem Keep.put {w0 w w' : World} {b : Nat} {t : TypeId} {cs : List Value} (h : Keep Non w0 w) (k : Put w w' b t cs) (hb : w0.heap.size ≤ b) : Keep Non w0 w' := h.far k.keep (fun i hi => by subst hi; exact hb)

/-- One-cell elements: the cells of all. -/
theorem Sl.cells1 {α : Type} {F : Nat → Prop} {bytes : Nat} {w : World} {A : Option Addr} {n c : Nat} {xs : List α} (f : α → Value) (h : Sl F 1 bytes (fun _ cs x => cs = [f x]) w (.slice A n c) xs) (hn : 0 < xs.length) : ∃ b o, A = some ⟨b, o, none⟩ ∧ F b ∧ Cells w b o (xs.map f) := by
  obtain ⟨A', c', hv, _, _, _, he⟩ := h.open_
  simp only [Value.slice.injEq] at hv
  obtain ⟨rfl, rfl, rfl⟩ := hv
  obtain ⟨b, o, cs, h1, h2, h3, h4, h5⟩ := he 0 hn
  refine ⟨b, o, h1, h2, fun j v hj => ?_⟩
  have hj' : j < xs.length := by have := (List.getElem?_eq_some_iff.1 hj).1; simpa using this
  obtain ⟨b', o', cs', h1', h2', h3', h4', h5'⟩ := he j hj'
  rw [h1] at h1'
  simp only [Option.some.injEq, Addr.mk.injEq] at h1'
  obtain ⟨rfl, rfl, _⟩ := h1'
  subst h5'
  have h6 := h4' 0 (f xs[j]) rfl
  rw [List.getElem?_map, List.getElem?_eq_getElem hj'] at hj
  simp only [Option.map_some, Option.some.injEq] at hj
  rw [← hj]
  simpa using h6
theorem ownB {b o n c b' : Nat} (h : (Value.slice (some ⟨b, o, none⟩) n c).ownBlock = some b') : b' = b := by
  simp only [Value.ownBlock, Option.some.injEq] at h
  exact h.symm
theorem ownB' {b o n c b' : Nat} (h : some b' = (Value.slice (some ⟨b, o, none⟩) n c).ownBlock) : b' = b := ownB h.symm
/-- One element more. -/
theorem take_snoc {cs : List Value} {v : Value} {i : Nat} (h : cs.length = i) : (((cs ++ [v]).drop (i * 1)).take 1) = [v] := by
  subst h
  simp
theorem take_old {cs : List Value} {v : Value} {i j : Nat} (h : cs.length = i) (hj : j < i) : (((cs ++ [v]).drop (j * 1)).take 1) = ((cs.drop (j * 1)).take 1) := by
  subst h
  simp only [Nat.mul_one]
  rw [List.drop_append_of_le_length (by omega), List.take_append_of_le_length (by simp; omega)]
theorem one1 {a : Value} (ha : a.oneCell' = true) : ∀ u ∈ [a], u.oneCell' = true := fun u hu => by
  simp only [List.mem_singleton] at hu; subst hu; exact ha
theorem one2 {a b : Value} (ha : a.oneCell' = true) (hb : b.oneCell' = true) : ∀ u ∈ [a, b], u.oneCell' = true := fun u hu => by
  rcases List.mem_cons.1 hu with rfl | hu
  · exact ha
  · exact one1 hb u hu
theorem one3 {a b c : Value} (ha : a.oneCell' = true) (hb : b.oneCell' = true) (hc : c.oneCell' = true) : ∀ u ∈ [a, b, c], u.oneCell' = true := fun u hu => by
  rcases List.mem_cons.1 hu with rfl | hu
  · exact ha
  · exact one2 hb hc u hu
theorem one4 {a b c d : Value} (ha : a.oneCell' = true) (hb : b.oneCell' = true) (hc : c.oneCell' = true) (hd : d.oneCell' = true) : ∀ u ∈ [a, b, c, d], u.oneCell' = true := fun u hu => by
  rcases List.mem_cons.1 hu with rfl | hu
  · exact ha
  · exact one3 hb hc hd u hu
/-! ### Whole numbers, rows of whole numbers, rows of such rows -/
def RInt (k : IntKind) : World → List Value → Int → Prop := fun _ cs x => cs = [.int k x]
theorem RInt.stable {F : Nat → Prop} {k : IntKind} : Stable F (RInt k) := fun _ _ _ _ _ _ _ h => h
/-- []int -/
def Ints (F : Nat → Prop) (w : World) (v : Value) (xs : List Int) : Prop := Sl F 1 8 (RInt .i64) w v xs
def RInts (F : Nat → Prop) : World → List Value → List Int → Prop := fun w cs xs => ∃ v, cs = [v] ∧ Ints F w v xs
theorem RInts.stable {F : Nat → Prop} : Stable F (RInts F) := fun S w w' cs x k hF h => by
  obtain ⟨v, h1, h2⟩ := h
  exact ⟨v, h1, Sl.keep RInt.stable k hF h2⟩
theorem Ints.keep {F S : Nat → Prop} {w w' : World} (k : Keep S w w') (hF : ∀ k, F k → ¬ S k) {v : Value} {xs : List Int} (h : Ints F w v xs) : Ints F w' v xs := Sl.keep RInt.stable k hF h
theorem Ints.mono {F G : Nat → Prop} {w : World} (hF : ∀ k, F k → G k) {v : Value} {xs : List Int} (h : Ints F w v xs) : Ints G w v xs := Sl.mono hF (fun _ _ h => h) h
theorem RInts.mono {F G : Nat → Prop} {w : World} (hF : ∀ k, F k → G k) {cs : List Value} {xs : List Int} (h : RInts F w cs xs) : RInts G w cs xs := by
  obtain ⟨v, h1, h2⟩ := h
  exact ⟨v, h1, h2.mono hF⟩
/-- [][]int -/
def Intss (F : Nat → Prop) (w : World) (v : Value) (xs : List (List Int)) : Prop := Sl F 1 24 (RInts F) w v xs
theorem Intss.keep {F S : Nat → Prop} {w w' : World} (k : Keep S w w') (hF : ∀ k, F k → ¬ S k) {v : Value} {xs : List (List Int)} (h : Intss F w v xs) : Intss F w' v xs := Sl.keep RInts.stable k hF h
theorem Intss.mono {F G : Nat → Prop} {w : World} (hF : ∀ k, F k → G k) {v : Value} {xs : List (List Int)} (h : Intss F w v xs) : Intss G w v xs := Sl.mono hF (fun _ _ h => RInts.mono hF h) h
theorem slice_one {α : Type} {F : Nat → Prop} {sz bytes : Nat} {R : World → List Value → α → Prop} {w : World} {v : Value} {xs : List α} (h : Sl F sz bytes R w v xs) : v.oneCell' = true := by
  obtain ⟨A, c, rfl, _⟩ := h
  rfl

theorem Ints.cells {F : Nat → Prop} {w : World} {A : Option Addr} {n c : Nat} {xs : List Int} (h : Ints F w (.slice A n c) xs) (hn : 0 < xs.length) : ∃ b o, A = some ⟨b, o, none⟩ ∧ F b ∧ Cells w b o (xs.map (Value.int .i64)) := Sl.cells1 (Value.int .i64) h hn
theorem ints_one (k : IntKind) (xs : List Int) : ∀ u ∈ xs.map (Value.int k), u.oneCell' = true := fun u hu => by
  obtain ⟨x, _, rfl⟩ := List.mem_map.1 hu
  rfl
theorem Ints.of_own {F : Nat → Prop} {w : World} {base : Nat} {e : TypeId} {v : Value} {n : Nat} {xs : List Int} (h : w.ownsRow base e 1 v n (xs.map (Value.int .i64))) (hb : n * 8 ≤ 140737488351232) (hF : ∀ b, v.ownBlock = some b → F b) : Ints F w v xs := by
  have hl : xs.length = n := by have := h.1; simpa using this
  refine Sl.of_own h hl hb hF (fun i x hi => ?_)
  have hlt := (List.getElem?_eq_some_iff.1 hi).1
  simp only [RInt, Nat.mul_one]
  rw [← List.map_drop, ← List.map_take]
  have hd : (xs.drop i).take 1 = [x] := by
    rw [List.drop_eq_getElem_cons hlt]
    have : xs[i] = x := by rw [List.getElem?_eq_getElem hlt] at hi; simpa using hi
    simp [this]
  rw [hd]; rfl

end Go.Proofs.Ytkehmehodgcdfaa.Vb
