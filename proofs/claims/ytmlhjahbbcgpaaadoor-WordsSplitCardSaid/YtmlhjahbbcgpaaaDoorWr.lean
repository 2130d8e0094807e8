/- rhizomelaw08.WordsJoined: one round of the joining. -/
import Derived.Test.YtmlhjahbbcgpaaaDoorWq
import Derived.Test.YtmlhjahbbcgpaaaDoorWn
namespace Go.Proofs.YtmlhjahbbcgpaaaDoor
open Vb Go.RowKit

/-- []string -/
def RStr : World → List Value → Bs → Prop := fun _ cs x => cs = [str x]
theorem RStr.stable {F : Nat → Prop} : Stable F RStr := fun _ _ _ _ _ _ _ h => h
def Strs (F : Nat → Prop) (w : World) (v : Value) (l : List Bs) : Prop := Sl F 1 16 RStr w v l
theorem Strs.keep {F S : Nat → Prop} {w w' : World} (k : Keep S w w') (hF : ∀ k, F k → ¬ S k) {v : Value} {l : List Bs} (h : Strs F w v l) : Strs F w' v l := Sl.keep RStr.stable k hF h
theorem Strs.at {F : Nat → Prop} {w : World} {A : Option Addr} {n c : Nat} {l : List Bs} (h : Strs F w (.slice A n c) l) (i : Nat) (x : Bs) (hi : l[i]? = some x) : ∃ b o, A = some ⟨b, o, none⟩ ∧ F b ∧ w.cell? ⟨b, o + i * 1, none⟩ = some (str x) := by
  obtain ⟨A', c', hv, _, _, _, he⟩ := h
  simp only [Value.slice.injEq] at hv
  obtain ⟨rfl, _, rfl⟩ := hv
  obtain ⟨b, o, cs, h1, h2, h3, h4, h5⟩ := he i x hi
  have h5 : cs = [str x] := h5
  subst h5
  exact ⟨b, o, h1, h2, h4 0 _ rfl⟩
theorem Strs.slice {F : Nat → Prop} {w : World} {v : Value} {xs : List Bs} (h : Strs F w v xs) : ∃ A c, v = .slice A xs.length c := by
  obtain ⟨A, c, h, _⟩ := h
  exact ⟨A, c, h⟩
theorem Bytes.lit1 {w : World} {b : Nat} {e : TypeId} {x : UInt8} (h : Row w b e [byteV x]) : Bytes (fun _ => True) w (.slice (some ⟨b, 0, none⟩) 1 1) [x] := by
  refine ⟨_, _, rfl, Nat.le_refl _, (fun h => by cases h), by simp, fun i y hi => ?_⟩
  have h0 : i = 0 := by have := (List.getElem?_eq_some_iff.1 hi).1; simpa using this
  subst h0
  have hy : x = y := by simpa using hi
  subst hy
  exact ⟨b, 0, [byteV x], rfl, trivial, rfl, h.cells 0 _ rfl, rfl⟩
theorem wrap_u8' (x : Int) (h : 0 ≤ x ∧ x < 256) : IntKind.u8.wrap x = x := by
  have : IntKind.u8.wrap x = x % 256 := by simp [IntKind.wrap, IntKind.signed, IntKind.bits]
  rw [this]; omega
theorem jw_snoc (n : Bs) (j : Nat) (b : UInt8) (h : n[j]? = some b) : ((n.take (j + 1)).map jlet) = ((n.take j).map jlet) ++ [jlet b] := by
  obtain ⟨h1, rfl⟩ := List.getElem?_eq_some_iff.1 h
  rw [List.take_succ_eq_append_getElem h1, List.map_append]; rfl

set_option maxHeartbeats 3200000 in
/-- A name's letters. -/
theorem joined_word (F : Nat → Prop) (w : World) (names : List Bs) (A : Option Addr) (c i : Nat) (v1 v2 v7 v8 : Value) (n : Bs) (hN : Strs F w (.slice A names.length c) names) (hi : names[i]? = some n) :
    C Tryd.prog 172 (pc [1,1,1,1,0,1,0,0,1,0,0,1,0,1,0] Tryd.f4) (Post 172 (fun e L' w' => e = .exit 2 ∧ L' = [(0, .slice A names.length c), (1, v1), (2, v2), (7, v7), (8, v8), (9, .int .i64 i), (10, str (jw n))] ∧ Keep Non w w')) [(0, .slice A names.length c), (1, v1), (2, v2), (7, v7), (8, v8), (9, .int .i64 i), (10, str []), (11, .int .i64 0)] w := by
  have hlt := (List.getElem?_eq_some_iff.1 hi).1
  have hz := str_size n
  refine C.loop (fun m L w' => ∃ (j : Nat), L = [(0, .slice A names.length c), (1, v1), (2, v2), (7, v7), (8, v8), (9, .int .i64 i), (10, str ((n.take j).map jlet)), (11, .int .i64 j)] ∧ m = 16 - j ∧ j ≤ 16 ∧ j ≤ n.length ∧ Keep Non w w') 16 _
    ⟨0, rfl, rfl, by omega, by omega, Keep.refl _ _⟩ ⟨rfl, rfl, rfl, rfl, rfl, rfl, rfl, rfl, trivial⟩ ?_
  rintro m L w1 ⟨j, rfl, rfl, hj, hjn, k1⟩
  have hend : ¬ (j < n.length ∧ j < 16) → (n.take j).map jlet = jw n := fun h => by
    unfold jw
    by_cases h16 : j = 16
    · rw [h16]
    · rw [List.take_of_length_le (by omega : n.length ≤ j), List.take_of_length_le (by omega)]
  obtain ⟨b, o, rfl, hF, hc⟩ := (hN.keep k1 (fun _ _ => non_not _)).at i n hi
  by_cases hjl : j < n.length
  · by_cases h16 : j < 16
    · have hb := List.getElem?_eq_getElem hjl
      have hlt' := n[j].toNat_lt
      (repeat first|refine .seq ?_|refine .region ?_|refine .block ?_|refine .skip ?_|refine .ret ?_|refine .exit ?_|refine .yes rfl ?_|refine .no rfl ?_|refine .nil ?_|refine .go ?_|refine .thenExit ?_|refine .thenRet ?_|refine .inExit ?_|refine .outExit rfl ?_|refine .inNormal ?_|refine .inRet ?_|refine .off rfl rfl ?_|refine .offU rfl rfl rfl ?_|(apply W.y rfl rfl;first|exact .move rfl|exact .assign rfl|exact .fieldC rfl|exact .loadW rfl (by (first|apply Ld.oneC|apply Ld.two|apply Ld.three|apply Ld.four|apply Ld.five);repeat(first|assumption|exact Row.cell (by assumption) (by first|rfl|assumption)))|exact .nilCheck rfl|exact .lenC rfl|exact .lenStrC rfl|exact .extract rfl rfl|exact .not rfl|exact .pickT rfl rfl|exact .pickF rfl rfl|exact .buildC rfl rfl|exact .indexC _ rfl rfl rfl (by omega)|exact .indexC 0 rfl rfl rfl (by omega)|exact .indexC 1 rfl rfl rfl (by omega)|exact .indexC 2 rfl rfl rfl (by omega)|exact .indexArrC _ rfl rfl rfl (by omega)|exact .indexArrC 0 rfl rfl rfl (by omega)|exact .indexArrC 1 rfl rfl rfl (by omega)|exact .indexArrC 2 rfl rfl rfl (by omega)|exact .add _ rfl rfl (wrap_i64 (by omega))|exact .sub _ rfl rfl (wrap_i64 (by omega))|exact .rem _ rfl rfl (by decide) (Int.tmod_eq_emod_of_nonneg (by omega))|exact .cmpT rfl rfl rfl (by unfold cmpP;omega)|exact .cmpF rfl rfl rfl (by unfold cmpP;omega)|fail)|fail)
      refine W.y rfl rfl (Y.indexStr j rfl rfl rfl hb) ?_
      unfold byteV
      (repeat first|refine .seq ?_|refine .region ?_|refine .block ?_|refine .skip ?_|refine .ret ?_|refine .exit ?_|refine .yes rfl ?_|refine .no rfl ?_|refine .nil ?_|refine .go ?_|refine .thenExit ?_|refine .thenRet ?_|refine .inExit ?_|refine .outExit rfl ?_|refine .inNormal ?_|refine .inRet ?_|refine .off rfl rfl ?_|refine .offU rfl rfl rfl ?_|(apply W.y rfl rfl;first|exact .move rfl|exact .assign rfl|exact .fieldC rfl|exact .loadW rfl (by (first|apply Ld.oneC|apply Ld.two|apply Ld.three|apply Ld.four|apply Ld.five);repeat(first|assumption|exact Row.cell (by assumption) (by first|rfl|assumption)))|exact .nilCheck rfl|exact .lenC rfl|exact .lenStrC rfl|exact .extract rfl rfl|exact .not rfl|exact .pickT rfl rfl|exact .pickF rfl rfl|exact .buildC rfl rfl|exact .indexC _ rfl rfl rfl (by omega)|exact .indexC 0 rfl rfl rfl (by omega)|exact .indexC 1 rfl rfl rfl (by omega)|exact .indexC 2 rfl rfl rfl (by omega)|exact .indexArrC _ rfl rfl rfl (by omega)|exact .indexArrC 0 rfl rfl rfl (by omega)|exact .indexArrC 1 rfl rfl rfl (by omega)|exact .indexArrC 2 rfl rfl rfl (by omega)|exact .add _ rfl rfl (wrap_i64 (by omega))|exact .sub _ rfl rfl (wrap_i64 (by omega))|exact .rem _ rfl rfl (by decide) (Int.tmod_eq_emod_of_nonneg (by omega))|exact .cmpT rfl rfl rfl (by unfold cmpP;omega)|exact .cmpF rfl rfl rfl (by unfold cmpP;omega)|fail)|fail)
      refine W.y rfl rfl (.add (((jlet n[j]).toNat : Nat) : Int) rfl rfl (by rw [wrap_u8' _ (by omega), jlet_nat]; omega)) ?_
      refine W.st rfl rfl (St.lit (vs := [byteV (jlet n[j])]) rfl rfl (by omega) (fun v hv => by simp only [List.mem_singleton] at hv; subst hv; rfl)) (fun v2 w2 h2 => ?_)
      obtain ⟨b2, rfl, hN2⟩ := h2
      have hB2 : Bytes (fun _ => True) w2 (.slice (some ⟨b2, 0, none⟩) 1 1) [jlet n[j]] := Bytes.lit1 hN2.row
      refine W.y rfl rfl (Y.bytesStr Tryd.underlying34 Tryd.underlying5 Tryd.underlying9 rfl (fun w hw => by subst hw; exact ⟨_, hB2⟩)) ?_
      have hl1 : ((n.take j).map jlet).length ≤ 16 := by rw [List.length_map, List.length_take]; omega
      refine W.y rfl rfl (Y.addStr rfl rfl (by simp only [List.length_cons, List.length_nil]; omega)) ?_
      (repeat first|refine .seq ?_|refine .region ?_|refine .block ?_|refine .skip ?_|refine .ret ?_|refine .exit ?_|refine .yes rfl ?_|refine .no rfl ?_|refine .nil ?_|refine .go ?_|refine .thenExit ?_|refine .thenRet ?_|refine .inExit ?_|refine .outExit rfl ?_|refine .inNormal ?_|refine .inRet ?_|refine .off rfl rfl ?_|refine .offU rfl rfl rfl ?_|(apply W.y rfl rfl;first|exact .move rfl|exact .assign rfl|exact .fieldC rfl|exact .loadW rfl (by (first|apply Ld.oneC|apply Ld.two|apply Ld.three|apply Ld.four|apply Ld.five);repeat(first|assumption|exact Row.cell (by assumption) (by first|rfl|assumption)))|exact .nilCheck rfl|exact .lenC rfl|exact .lenStrC rfl|exact .extract rfl rfl|exact .not rfl|exact .pickT rfl rfl|exact .pickF rfl rfl|exact .buildC rfl rfl|exact .indexC _ rfl rfl rfl (by omega)|exact .indexC 0 rfl rfl rfl (by omega)|exact .indexC 1 rfl rfl rfl (by omega)|exact .indexC 2 rfl rfl rfl (by omega)|exact .indexArrC _ rfl rfl rfl (by omega)|exact .indexArrC 0 rfl rfl rfl (by omega)|exact .indexArrC 1 rfl rfl rfl (by omega)|exact .indexArrC 2 rfl rfl rfl (by omega)|exact .add _ rfl rfl (wrap_i64 (by omega))|exact .sub _ rfl rfl (wrap_i64 (by omega))|exact .rem _ rfl rfl (by decide) (Int.tmod_eq_emod_of_nonneg (by omega))|exact .cmpT rfl rfl rfl (by unfold cmpP;omega)|exact .cmpF rfl rfl rfl (by unfold cmpP;omega)|fail)|fail)
      exact E.again _ _ (by omega) ⟨j + 1, rfl, rfl, by omega, by omega, k1.then hN2.keep⟩ ⟨rfl, rfl, rfl, rfl, rfl, rfl, by rw [jw_snoc n j n[j] hb]; rfl, some_int (by omega), trivial⟩
    · have := hend (by omega)
      (repeat first|refine .seq ?_|refine .region ?_|refine .block ?_|refine .skip ?_|refine .ret ?_|refine .exit ?_|refine .yes rfl ?_|refine .no rfl ?_|refine .nil ?_|refine .go ?_|refine .thenExit ?_|refine .thenRet ?_|refine .inExit ?_|refine .outExit rfl ?_|refine .inNormal ?_|refine .inRet ?_|refine .off rfl rfl ?_|refine .offU rfl rfl rfl ?_|(apply W.y rfl rfl;first|exact .move rfl|exact .assign rfl|exact .fieldC rfl|exact .loadW rfl (by (first|apply Ld.oneC|apply Ld.two|apply Ld.three|apply Ld.four|apply Ld.five);repeat(first|assumption|exact Row.cell (by assumption) (by first|rfl|assumption)))|exact .nilCheck rfl|exact .lenC rfl|exact .lenStrC rfl|exact .extract rfl rfl|exact .not rfl|exact .pickT rfl rfl|exact .pickF rfl rfl|exact .buildC rfl rfl|exact .indexC _ rfl rfl rfl (by omega)|exact .indexC 0 rfl rfl rfl (by omega)|exact .indexC 1 rfl rfl rfl (by omega)|exact .indexC 2 rfl rfl rfl (by omega)|exact .indexArrC _ rfl rfl rfl (by omega)|exact .indexArrC 0 rfl rfl rfl (by omega)|exact .indexArrC 1 rfl rfl rfl (by omega)|exact .indexArrC 2 rfl rfl rfl (by omega)|exact .add _ rfl rfl (wrap_i64 (by omega))|exact .sub _ rfl rfl (wrap_i64 (by omega))|exact .rem _ rfl rfl (by decide) (Int.tmod_eq_emod_of_nonneg (by omega))|exact .cmpT rfl rfl rfl (by unfold cmpP;omega)|exact .cmpF rfl rfl rfl (by unfold cmpP;omega)|fail)|fail)
      exact E.endX _ ⟨rfl, rfl, k1⟩ ⟨rfl, rfl, rfl, rfl, rfl, rfl, by rw [this]; rfl, trivial⟩
  · have := hend (by omega)
    (repeat first|refine .seq ?_|refine .region ?_|refine .block ?_|refine .skip ?_|refine .ret ?_|refine .exit ?_|refine .yes rfl ?_|refine .no rfl ?_|refine .nil ?_|refine .go ?_|refine .thenExit ?_|refine .thenRet ?_|refine .inExit ?_|refine .outExit rfl ?_|refine .inNormal ?_|refine .inRet ?_|refine .off rfl rfl ?_|refine .offU rfl rfl rfl ?_|(apply W.y rfl rfl;first|exact .move rfl|exact .assign rfl|exact .fieldC rfl|exact .loadW rfl (by (first|apply Ld.oneC|apply Ld.two|apply Ld.three|apply Ld.four|apply Ld.five);repeat(first|assumption|exact Row.cell (by assumption) (by first|rfl|assumption)))|exact .nilCheck rfl|exact .lenC rfl|exact .lenStrC rfl|exact .extract rfl rfl|exact .not rfl|exact .pickT rfl rfl|exact .pickF rfl rfl|exact .buildC rfl rfl|exact .indexC _ rfl rfl rfl (by omega)|exact .indexC 0 rfl rfl rfl (by omega)|exact .indexC 1 rfl rfl rfl (by omega)|exact .indexC 2 rfl rfl rfl (by omega)|exact .indexArrC _ rfl rfl rfl (by omega)|exact .indexArrC 0 rfl rfl rfl (by omega)|exact .indexArrC 1 rfl rfl rfl (by omega)|exact .indexArrC 2 rfl rfl rfl (by omega)|exact .add _ rfl rfl (wrap_i64 (by omega))|exact .sub _ rfl rfl (wrap_i64 (by omega))|exact .rem _ rfl rfl (by decide) (Int.tmod_eq_emod_of_nonneg (by omega))|exact .cmpT rfl rfl rfl (by unfold cmpP;omega)|exact .cmpF rfl rfl rfl (by unfold cmpP;omega)|fail)|fail)
    exact E.endX _ ⟨rfl, rfl, k1⟩ ⟨rfl, rfl, rfl, rfl, rfl, rfl, by rw [this]; rfl, trivial⟩
end Go.Proofs.YtmlhjahbbcgpaaaDoor
