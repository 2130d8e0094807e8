/- Strings: their bytes, cuts, sums; range over a string; what a rune's text is. No program is named here. -/
import Derived.Test.YtmlhjahbbcgpaaaDoorVi
import Derived.Lib.RuneCountTail
import Derived.Lib.MapLaws
import Derived.Laws.RangeString
namespace Go.Proofs.YtmlhjahbbcgpaaaDoor.Vb
open Go.RowKit

theorem str_size (s : List UInt8) : (⟨s.toArray⟩ : ByteArray).size = s.length := by simp [ByteArray.size]
theorem str_get (s : List UInt8) (k : Nat) (b : UInt8) (h : s[k]? = some b) : (⟨s.toArray⟩ : ByteArray)[k]? = some b := by
  obtain ⟨h1, h2⟩ := List.getElem?_eq_some_iff.1 h
  have h3 : k < (⟨s.toArray⟩ : ByteArray).size := by rw [str_size]; exact h1
  rw [getElem?_pos (⟨s.toArray⟩ : ByteArray) k h3]
  congr 1
theorem str_extract (s : List UInt8) (l h : Nat) : (⟨s.toArray⟩ : ByteArray).extract l h = ⟨((s.drop l).take (h - l)).toArray⟩ := by
  apply ByteArray.ext
  simp [ByteArray.data_extract, List.extract_eq_take_drop]
theorem str_drop (s : List UInt8) (l : Nat) : (⟨s.toArray⟩ : ByteArray).extract l (⟨s.toArray⟩ : ByteArray).size = ⟨(s.drop l).toArray⟩ := by
  rw [str_extract, str_size, List.take_of_length_le (by rw [List.length_drop]; omega)]
/-- The rune at a place. -/
def dec (s : List UInt8) : Nat × Nat := Lib.decodeL s
theorem decode_dec (s : List UInt8) (i : Nat) : Utf8.decode ⟨s.toArray⟩ i = dec (s.drop i) := by
  have := Lib.tail_decode ⟨s.toArray⟩ i 0
  rw [str_drop] at this
  exact this.symm
/-- An iterator over a string: the place where it stands. -/
def It (w : World) (b : Nat) (s : List UInt8) (pos : Nat) : Prop := w.heap[b]? = some (.stringIter ⟨s.toArray⟩ pos)
theorem It.keep {S : Nat → Prop} {w w' : World} {b : Nat} {s : List UInt8} {pos : Nat} (h : It w b s pos) (k : Keep S w w') (hn : ¬ S b) : It w' b s pos := k.heap h hn

section
variable {P : Program} {n : Nat} {L : FL} {S : World → Prop} {ty : TypeId} {w : World}
theorem Y.indexStr {x y : Operand} {t : TypeId} [ht : StrC P t] {s : List UInt8} {kk : IntKind} {i : Int} {b : UInt8} (k : Nat) (hx : ev L x = some (str s)) (hy : ev L y = some (.int kk i)) (hi : i = (k : Int)) (hb : s[k]? = some b) : Y P n L S (.index t x y) ty (byteV b) := ⟨fun g hg w _ dst pos after guard => by
  subst hi
  have e1 := hg.eval hx
  have e2 := hg.eval hy
  have h0 : (0 : Int) ≤ (k : Int) := by omega
  unfold str at e1
  simp [execOp, Instr.index, run_underlying ht.out, asIntOf, e1, e2, str_get s k b hb]
  rfl⟩
theorem Y.cutStrLo {x lo : Operand} {t : TypeId} [ht : StrC P t] {s : List UInt8} {k1 : IntKind} {il : Int} (l : Nat) (hx : ev L x = some (str s)) (hl : ev L lo = some (.int k1 il)) (el : il = (l : Int)) (h1 : l ≤ s.length) : Y P n L S (.slice t x (some lo) none none) ty (str (s.drop l)) := ⟨fun g hg w _ dst pos after guard => by
  subst el
  have e1 := hg.eval hx
  have e2 := hg.eval hl
  have hs := str_size s
  have hd := str_drop s l
  unfold str at e1
  have h1' : l ≤ (⟨s.toArray⟩ : ByteArray).size := by rw [hs]; exact h1
  simp [execOp, Instr.sliceAt, Instr.slice, run_underlying ht.out, e1, e2, Instr.sliceBounds, Instr.sliceBound, asIntOf, h1', hd, str]⟩
theorem Y.addStr {x y : Operand} {t t' : TypeId} {a b : List UInt8} (hx : ev L x = some (str a)) (hy : ev L y = some (str b)) (hl : a.length + b.length ≤ 9223372036854775807) : Y P n L S (.binOp .add t x y t') ty (str (a ++ b)) := ⟨fun f hf w _ dst pos after guard => by
  have h1 := hf.eval hx
  have h2 := hf.eval hy
  unfold str at h1 h2
  have e : (⟨a.toArray⟩ : ByteArray) ++ ⟨b.toArray⟩ = ⟨(a ++ b).toArray⟩ := by apply ByteArray.ext; simp
  have hz : ¬ (((⟨a.toArray⟩ : ByteArray).size + (⟨b.toArray⟩ : ByteArray).size : Nat) : Int) > IntKind.i64.max := by
    rw [str_size, str_size, show IntKind.i64.max = 9223372036854775807 from rfl]; omega
  simp only [execOp, h1, h2, Sem.run_bind]
  rw [eqGuard_str]
  simp only [Result.andThen]
  show ((binOp .add t (.string ⟨a.toArray⟩) (.string ⟨b.toArray⟩)).run P w).andThen _ = _
  have hb : binOp .add t (.string ⟨a.toArray⟩) (.string ⟨b.toArray⟩) = Op.stringOp .add ⟨a.toArray⟩ ⟨b.toArray⟩ := rfl
  rw [hb]
  simp only [Op.stringOp, if_neg hz, e]
  rfl⟩
theorem Y.runeStr {x : Operand} {s t : TypeId} {k0 : IntKind} {c : Nat} [hs : IntC P s k0] [ht : StrC P t] (hx : ev L x = some (.int .i32 (c : Int))) (hc : c < 128) : Y P n L S (.convert s t x) ty (str [UInt8.ofNat c]) := ⟨fun f hf w _ dst pos after guard => by
  have e1 := hf.eval hx
  have e2 : Utf8.encode (c : Int) = ⟨#[UInt8.ofNat c]⟩ := by
    have hv : Utf8.valid (c : Int) = true := by
      simp only [Utf8.valid, Bool.or_eq_true, Bool.and_eq_true, decide_eq_true_eq]
      left; omega
    simp [Utf8.encode, hv, hc]
  simp [execOp, Go.convert, run_underlying hs.out, run_underlying ht.out, Conv.intToString, e1, e2, str]⟩
theorem St.rangeStr {x : Operand} {t : TypeId} [ht : StrC P t] {s : List UInt8} (hx : ev L x = some (str s)) : St P n L w (.range t x) ty (fun v w' => ∃ b, v = .pointer (some ⟨b, 0, none⟩) ∧ b = w.heap.size ∧ Keep Non w w' ∧ w'.heap.size = w.heap.size + 1 ∧ It w' b s 0) :=
  St.run fun a ha dst pos after guard => by
    have e1 := ha.eval hx
    unfold str at e1
    refine ⟨_, w.alloc (.stringIter ⟨s.toArray⟩ 0), ?_, w.heap.size, rfl, rfl, ⟨rfl, rfl, rfl, by simp, fun k hk _ => Below.heap_alloc _ _ _ hk⟩, by simp, heap_alloc_new w _⟩
    simp only [execOp, e1, Sem.run_bind]
    rw [run_range_string w t _ ht.out]
    rfl
theorem St.nextStr {x : Operand} {s : List UInt8} {b pos : Nat} (hx : ev L x = some (.pointer (some ⟨b, 0, none⟩))) (h : It w b s pos) (hp : pos < s.length) :
    St P n L w (.next x true) ty (fun v w' => v = .tuple #[.bool true, .int .i64 pos, .int .i32 (dec (s.drop pos)).1] ∧ Keep (fun k => k = b) w w' ∧ w'.heap.size = w.heap.size ∧ It w' b s (pos + (dec (s.drop pos)).2)) :=
  St.run fun a ha dst pos' after guard => by
    have e1 := ha.eval hx
    have hs := str_size s
    have hlt := lt_of_heap h
    have h' : w.heap[b]? = some (.stringIter ⟨s.toArray⟩ pos) := h
    have hp' : pos < (⟨s.toArray⟩ : ByteArray).size := by rw [hs]; exact hp
    have hd := decode_dec s pos
    refine ⟨_, { w with heap := w.heap.setIfInBounds b (.stringIter ⟨s.toArray⟩ (pos + (dec (s.drop pos)).2)) }, ?_, rfl, ⟨rfl, rfl, rfl, by simp, fun k hk hn => ?_⟩, by simp, ?_⟩
    · simp only [execOp, e1, Instr.next, getObj, setObj, Sem.run_bind, Sem.run, h', Result.andThen, hp', if_true, hd]
      simp [goInt]
    · exact Array.getElem?_setIfInBounds_ne (fun e => hn e.symm)
    · simp [It, hlt]
theorem St.nextEnd {x : Operand} {s : List UInt8} {b pos : Nat} (hx : ev L x = some (.pointer (some ⟨b, 0, none⟩))) (h : It w b s pos) (hp : s.length ≤ pos) :
    St P n L w (.next x true) ty (fun v w' => v = .tuple #[.bool false] ∧ w' = w) :=
  St.run fun a ha dst pos' after guard => by
    have e1 := ha.eval hx
    have hs := str_size s
    have h' : w.heap[b]? = some (.stringIter ⟨s.toArray⟩ pos) := h
    have hp' : ¬ pos < (⟨s.toArray⟩ : ByteArray).size := by rw [hs]; omega
    refine ⟨_, w, ?_, rfl, rfl⟩
    simp only [execOp, e1, Instr.next, getObj, Sem.run_bind, Sem.run, h', Result.andThen, hp', if_false]
    simp
end
end Go.Proofs.YtmlhjahbbcgpaaaDoor.Vb
