/- Bytes: slices of bytes, strings; functions of the model's own (bytealg.Compare); the order of bytes. No program is named here. -/
import Derived.Test.YtkehmehodgcdfaaVg
import Derived.Lib.BytesEntry
import Derived.Lib.Bytealg
import Derived.Laws.BytesString
import Derived.Laws.Externs
import Derived.Sort.Walk0
namespace Go.Proofs.Ytkehmehodgcdfaa.Vb
open Go.RowKit

def RByte : World → List Value → UInt8 → Prop := fun _ cs x => cs = [.int .u8 x.toNat]
theorem RByte.stable {F : Nat → Prop} : Stable F RByte := fun _ _ _ _ _ _ _ h => h
/-- []byte -/
def Bytes (F : Nat → Prop) (w : World) (v : Value) (xs : List UInt8) : Prop := Sl F 1 1 RByte w v xs
theorem Bytes.keep {F S : Nat → Prop} {w w' : World} (k : Keep S w w') (hF : ∀ k, F k → ¬ S k) {v : Value} {xs : List UInt8} (h : Bytes F w v xs) : Bytes F w' v xs := Sl.keep RByte.stable k hF h
theorem Bytes.mono {F G : Nat → Prop} {w : World} (hF : ∀ k, F k → G k) {v : Value} {xs : List UInt8} (h : Bytes F w v xs) : Bytes G w v xs := Sl.mono hF (fun _ _ h => h) h
def byteV (x : UInt8) : Value := .int .u8 x.toNat
theorem Bytes.cells {F : Nat → Prop} {w : World} {A : Option Addr} {n c : Nat} {xs : List UInt8} (h : Bytes F w (.slice A n c) xs) (hn : 0 < xs.length) : ∃ b o, A = some ⟨b, o, none⟩ ∧ F b ∧ Cells w b o (xs.map byteV) := Sl.cells1 byteV h hn
theorem bytes_one (xs : List UInt8) : ∀ u ∈ xs.map byteV, u.oneCell' = true := fun u hu => by
  obtain ⟨x, _, rfl⟩ := List.mem_map.1 hu
  rfl
theorem Bytes.of_own {F : Nat → Prop} {w : World} {base : Nat} {e : TypeId} {v : Value} {n : Nat} {xs : List UInt8} (h : w.ownsRow base e 1 v n (xs.map byteV)) (hb : n * 1 ≤ 140737488351232) (hF : ∀ b, v.ownBlock = some b → F b) : Bytes F w v xs := by
  have hl : xs.length = n := by have := h.1; simpa using this
  refine Sl.of_own h hl hb hF (fun i x hi => ?_)
  have hlt := (List.getElem?_eq_some_iff.1 hi).1
  simp only [RByte, Nat.mul_one]
  rw [← List.map_drop, ← List.map_take]
  have hd : (xs.drop i).take 1 = [x] := by
    rw [List.drop_eq_getElem_cons hlt]
    have : xs[i] = x := by rw [List.getElem?_eq_getElem hlt] at hi; simpa using hi
    simp [this]
  rw [hd]; rfl
def str (xs : List UInt8) : Value := .string ⟨xs.toArray⟩
theorem str_toList (xs : List UInt8) : (⟨xs.toArray⟩ : ByteArray).toList = xs := by simp
theorem Bytes.run {P : Program} {F : Nat → Prop} {w : World} {v : Value} {xs : List UInt8} (h : Bytes F w v xs) : (Extern.Bytes.bytesOf v).run P w = .ok ⟨xs.toArray⟩ w := by
  have h' := h
  obtain ⟨A, c, rfl, hc, hn, _, _⟩ := h
  cases A with
  | none =>
    have : xs = [] := List.eq_nil_of_length_eq_zero (by have := hn rfl; omega)
    subst this
    rfl
  | some a =>
    by_cases h0 : xs.length = 0
    · have : xs = [] := List.eq_nil_of_length_eq_zero h0
      subst this
      rfl
    · obtain ⟨b, o, e, _, hcs⟩ := Bytes.cells h' (by omega)
      cases e
      have := Lib.run_loadBytesX (P := P) w (xs.map fun x => (x.toNat : Int)) ⟨b, o, none⟩ .empty (fun j x hj => by
        rw [List.getElem?_map] at hj
        obtain ⟨y, hy, rfl⟩ := Option.map_eq_some_iff.1 hj
        rw [add_addr]
        exact hcs j _ (by rw [List.getElem?_map, hy]; rfl))
      rw [List.length_map] at this
      simp only [Extern.Bytes.bytesOf]
      rw [this]
      simp only [Lib.bytesOf, List.map_map]
      have e : xs.map ((fun n : Int => UInt8.ofNat n.toNat) ∘ fun x : UInt8 => (x.toNat : Int)) = xs := by
        conv => rhs; rw [← List.map_id xs]
        refine List.map_congr_left (fun x _ => ?_)
        simp
      rw [e]
      simp
theorem Bytes.loads {P : Program} {F : Nat → Prop} {w : World} {A : Option Addr} {n c : Nat} {xs : List UInt8} (h : Bytes F w (.slice A n c) xs) : (Conv.bytesToString (.slice A n c)).run P w = .ok (str xs) w := by
  have h' := h
  obtain ⟨A', c', hv, hc, hn, _, _⟩ := h
  simp only [Value.slice.injEq] at hv
  obtain ⟨rfl, rfl, rfl⟩ := hv
  cases A with
  | none =>
    have : xs = [] := List.eq_nil_of_length_eq_zero (by have := hn rfl; omega)
    subst this
    rfl
  | some a =>
    have hl : (loadCells a xs.length).run P w = .ok ((xs.map fun x => (x.toNat : Int)).map (Value.int .u8)).toArray w := by
      by_cases h0 : xs.length = 0
      · have : xs = [] := List.eq_nil_of_length_eq_zero h0
        subst this
        exact run_loadCells_list (P := P) (w := w) a [] (fun j v hj => by simp at hj)
      · obtain ⟨b, o, e, _, hcs⟩ := Bytes.cells h' (by omega)
        cases e
        have := run_loadCells_list (P := P) (w := w) ⟨b, o, none⟩ (xs.map byteV) (fun j v hj => by rw [add_addr]; exact hcs j v hj)
        rw [List.length_map] at this
        rw [this, List.map_map]
        rfl
    rw [run_bytesToString w a xs.length c _ hl]
    have e : ∀ (l : List UInt8) (s : ByteArray), (l.map fun x => (x.toNat : Int)).foldl (fun r n => r.push (UInt8.ofNat n.toNat)) s = ⟨s.data ++ l.toArray⟩ := by
      intro l
      induction l with
      | nil => intro s; simp
      | cons x l ih =>
        intro s
        rw [List.map_cons, List.foldl_cons, ih]
        apply ByteArray.ext
        simp [ByteArray.push]
    rw [e]
    simp [str]

/-- A function of the model's own. -/
def Ext (P : Program) (f : FuncId) (e : Array Value → Sem Value) : Prop := ∀ (xs : Array Value) (w : World), (callFunc f xs).run P w = ((e xs).run P w).andThen fun v w' => .ok (.value v) w'
section
variable {P : Program} {n : Nat} {L : FL} {S : World → Prop} {ty : TypeId} {w : World}
theorem Y.ext2 {f : FuncId} {e : Array Value → Sem Value} {x y : Operand} {ats : Array TypeId} {a b v : Value} (hE : Ext P f e) (hx : ev L x = some a) (hy : ev L y = some b) (hr : ∀ w, S w → (e #[a, b]).run P w = .ok v w) :
    Y P n L S (.call { callee := .value (.func f), args := #[x, y], argTypes := ats }) ty v := ⟨fun g hg w hw dst pos after guard => by
  rw [execOp_call_go]
  have h1 : (#[] ++ #[x, y].map g.eval ++ #[] : Array Value) = #[a, b] := by simp [hg.eval hx, hg.eval hy]
  rw [h1, hE, hr w hw]
  rfl⟩
/-- bytes -> string -/
theorem Y.bytesStr {x : Operand} {s t e : TypeId} {A : Option Addr} {m c : Nat} {xs : List UInt8} (hs : P.underlying s = some (.slice e)) (he : P.underlying e = some (.int .u8)) (ht : P.underlying t = some .string) (hx : ev L x = some (.slice A m c)) (hb : ∀ w, S w → ∃ F, Bytes F w (.slice A m c) xs) :
    Y P n L S (.convert s t x) ty (str xs) := ⟨fun g hg w hw dst pos after guard => by
  obtain ⟨F, hB⟩ := hb w hw
  have := run_convert_bytes_string (P := P) w s t e A m c hs he ht
  simp only [execOp, hg.eval hx, Sem.run_bind]
  rw [this, hB.loads]
  rfl⟩
theorem eqGuard_str (op : BinOp) (t : TypeId) (x y : Operand) (a b : ByteArray) (P : Program) (w : World) : (eqGuard op t x y (.string a) (.string b)).run P w = .ok () w := by
  cases op <;> rfl
theorem Y.strOp {op : BinOp} {x y : Operand} {t t' : TypeId} {a b : List UInt8} {r : Bool} (hx : ev L x = some (str a)) (hy : ev L y = some (str b))
    (hr : (Op.stringOp op ⟨a.toArray⟩ ⟨b.toArray⟩).run P = (pure (.bool r) : Sem Value).run P) (hb : ∀ t, binOp op t (str a) (str b) = Op.stringOp op ⟨a.toArray⟩ ⟨b.toArray⟩) : Y P n L S (.binOp op t x y t') ty (.bool r) := ⟨fun f hf w _ dst pos after guard => by
  have h1 := hf.eval hx
  have h2 := hf.eval hy
  simp only [execOp, h1, h2, Sem.run_bind]
  unfold str at hb ⊢
  rw [eqGuard_str]
  simp only [Result.andThen]
  rw [hb, hr]
  rfl⟩
theorem Y.eqlStr {x y : Operand} {t t' : TypeId} {a b : List UInt8} (hx : ev L x = some (str a)) (hy : ev L y = some (str b)) : Y P n L S (.binOp .eql t x y t') ty (.bool (a == b)) :=
  Y.strOp hx hy (by simp [Op.stringOp]) (fun t => rfl)
theorem Y.neqStr {x y : Operand} {t t' : TypeId} {a b : List UInt8} (hx : ev L x = some (str a)) (hy : ev L y = some (str b)) : Y P n L S (.binOp .neq t x y t') ty (.bool !(a == b)) :=
  Y.strOp hx hy (by simp [Op.stringOp]) (fun t => rfl)
theorem Y.gtrStr {x y : Operand} {t t' : TypeId} {a b : List UInt8} (hx : ev L x = some (str a)) (hy : ev L y = some (str b)) : Y P n L S (.binOp .gtr t x y t') ty (.bool !(Op.bytesLess a b || a == b)) :=
  Y.strOp hx hy (by simp [Op.stringOp]) (fun t => rfl)
theorem Y.leqStr {x y : Operand} {t t' : TypeId} {a b : List UInt8} (hx : ev L x = some (str a)) (hy : ev L y = some (str b)) : Y P n L S (.binOp .leq t x y t') ty (.bool (Op.bytesLess a b || a == b)) :=
  Y.strOp hx hy (by simp [Op.stringOp]) (fun t => rfl)
theorem Y.lssStr {x y : Operand} {t t' : TypeId} {a b : List UInt8} (hx : ev L x = some (str a)) (hy : ev L y = some (str b)) : Y P n L S (.binOp .lss t x y t') ty (.bool (Op.bytesLess a b)) :=
  Y.strOp hx hy (by simp [Op.stringOp]) (fun t => rfl)
end

/-! ### The order -/
theorem cmp_lt : ∀ (a b : List UInt8), Lib.compareBytes a b < 0 ↔ a < b
  | [], [] => by simp [Lib.compareBytes]
  | [], b :: bs => by simp [Lib.compareBytes]
  | a :: xs, [] => by simp [Lib.compareBytes]
  | a :: xs, b :: bs => by
    rw [Lib.compareBytes, List.cons_lt_cons_iff]
    have ih := cmp_lt xs bs
    split
    · simp [*]
    · split
      · rename_i h1 h2
        simp only [h1, false_or]
        constructor
        · intro h; omega
        · rintro ⟨rfl, _⟩; exact absurd h2 h1
      · rename_i h1 h2
        have e : a = b := UInt8.le_antisymm (UInt8.not_lt.1 h2) (UInt8.not_lt.1 h1)
        subst e
        simp [ih]
theorem cmp_gt : ∀ (a b : List UInt8), 0 < Lib.compareBytes a b ↔ b < a
  | [], [] => by simp [Lib.compareBytes]
  | [], b :: bs => by simp [Lib.compareBytes]
  | a :: xs, [] => by simp [Lib.compareBytes]
  | a :: xs, b :: bs => by
    rw [Lib.compareBytes, List.cons_lt_cons_iff]
    have ih := cmp_gt xs bs
    split
    · rename_i h1
      have h2 : ¬ b < a := UInt8.lt_asymm h1
      simp only [h2, false_or]
      constructor
      · intro h; omega
      · rintro ⟨rfl, _⟩; exact absurd h1 h2
    · split
      · rename_i h1 h2
        simp [h2]
      · rename_i h1 h2
        have e : a = b := UInt8.le_antisymm (UInt8.not_lt.1 h2) (UInt8.not_lt.1 h1)
        subst e
        simp [ih]
theorem cmp_eq {a b : List UInt8} (h1 : ¬ a < b) (h2 : ¬ b < a) : Lib.compareBytes a b = 0 := by
  have := mt (cmp_lt a b).1 h1
  have := mt (cmp_gt a b).1 h2
  omega
end Go.Proofs.Ytkehmehodgcdfaa.Vb
