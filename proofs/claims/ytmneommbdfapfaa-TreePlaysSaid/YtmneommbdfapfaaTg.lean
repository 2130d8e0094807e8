/- The tree's Range. -/
import Derived.Test.YtmneommbdfapfaaTf
namespace Go.Proofs.Ytmneommbdfapfaa
open Vb Go.RowKit

abbrev Pr := Bs × Bs
def Tr.toList : Tr → List Pr
  | .nil => []
  | .node l k v r => l.toList ++ (k, v) :: r.toList
theorem Tr.toList_length : ∀ t : Tr, t.toList.length = t.count
  | .nil => rfl
  | .node l k v r => by
    simp only [Tr.toList, Tr.count, List.length_append, List.length_cons, Tr.toList_length l, Tr.toList_length r]
    omega
theorem Tr.toList_get : ∀ (t : Tr) (i : Nat), i < t.count → t.toList[i]? = some (t.get i)
  | .nil, i, h => by simp [Tr.count] at h
  | .node l k v r, i, h => by
    simp only [Tr.count] at h
    have hl := Tr.toList_length l
    rw [Tr.toList, Tr.get_node]
    split
    · rename_i h1
      rw [List.getElem?_append_left (by omega)]
      exact Tr.toList_get l i h1
    · rw [List.getElem?_append_right (by omega), hl]
      split
      · rename_i h2
        subst h2
        simp
      · rw [show i - l.count = (i - (l.count + 1)) + 1 by omega, List.getElem?_cons_succ]
        exact Tr.toList_get r _ (by omega)
/-- A pair's two cells. -/
def RPair (F : Nat → Prop) : World → List Value → Pr → Prop := fun w cs p => ∃ va vb, cs = [va, vb] ∧ Bytes F w va p.1 ∧ Bytes F w vb p.2
theorem RPair.stable {F : Nat → Prop} : Stable F (RPair F) := fun S w w' cs x k hF h => by
  obtain ⟨va, vb, h1, h2, h3⟩ := h
  exact ⟨va, vb, h1, h2.keep k hF, h3.keep k hF⟩
theorem RPair.mono {F G : Nat → Prop} {w : World} (hF : ∀ k, F k → G k) {cs : List Value} {x : Pr} (h : RPair F w cs x) : RPair G w cs x := by
  obtain ⟨va, vb, h1, h2, h3⟩ := h
  exact ⟨va, vb, h1, h2.mono hF, h3.mono hF⟩
def Pairs (F : Nat → Prop) (w : World) (v : Value) (l : List Pr) : Prop := Sl F 2 48 (RPair F) w v l
theorem Pairs.keep {F S : Nat → Prop} {w w' : World} (k : Keep S w w') (hF : ∀ k, F k → ¬ S k) {v : Value} {l : List Pr} (h : Pairs F w v l) : Pairs F w' v l := Sl.keep RPair.stable k hF h
theorem Pairs.mono {F G : Nat → Prop} {w : World} (hF : ∀ k, F k → G k) {v : Value} {l : List Pr} (h : Pairs F w v l) : Pairs G w v l := Sl.mono hF (fun _ _ h => RPair.mono hF h) h

theorem clip_spec (F : Nat → Prop) (v : Value) (es : List Pr) (w : World) (h : Pairs F w v es) :
    Meets Try.prog 27 #[v] w (fun r w' => Pairs F w r es ∧ w' = w) := by
  have h' := h
  obtain ⟨A, c, rfl, hc, hn, hb, _⟩ := h
  have hcl := Sl.clip h'
  refine Meets.enter Try.func27 Try.ntmps27 rfl rfl ?_
  (repeat first|refine .seq ?_|refine .region ?_|refine .block ?_|refine .skip ?_|refine .ret ?_|refine .exit ?_|refine .yes rfl ?_|refine .no rfl ?_|refine .nil ?_|refine .go ?_|refine .thenExit ?_|refine .thenRet ?_|refine .inExit ?_|refine .outExit rfl ?_|refine .inNormal ?_|refine .inRet ?_|refine .off rfl rfl ?_|refine .offU rfl rfl rfl ?_|(apply W.y rfl rfl;first|exact .move rfl|exact .assign rfl|exact .fieldC rfl|exact .loadW rfl (by (first|apply Ld.oneC|apply Ld.two|apply Ld.three|apply Ld.four|apply Ld.five);repeat(first|assumption|exact Row.cell (by assumption) (by first|rfl|assumption)))|exact .nilCheck rfl|exact .lenC rfl|exact .lenStrC rfl|exact .extract rfl rfl|exact .not rfl|exact .pickT rfl rfl|exact .pickF rfl rfl|exact .buildC rfl rfl|exact .indexC _ rfl rfl rfl (by omega)|exact .indexC 0 rfl rfl rfl (by omega)|exact .indexC 1 rfl rfl rfl (by omega)|exact .indexC 2 rfl rfl rfl (by omega)|exact .indexArrC _ rfl rfl rfl (by omega)|exact .indexArrC 0 rfl rfl rfl (by omega)|exact .indexArrC 1 rfl rfl rfl (by omega)|exact .indexArrC 2 rfl rfl rfl (by omega)|exact .add _ rfl rfl (wrap_i64 (by omega))|exact .sub _ rfl rfl (wrap_i64 (by omega))|exact .rem _ rfl rfl (by decide) (Int.tmod_eq_emod_of_nonneg (by omega))|exact .cmpT rfl rfl rfl (by dsimp only [cmpP];omega)|exact .cmpF rfl rfl rfl (by dsimp only [cmpP];omega)))
  refine W.y rfl rfl (Y.cut3 es.length es.length rfl rfl rfl rfl rfl (Nat.le_refl _) hc) ?_
  (repeat first|refine .seq ?_|refine .region ?_|refine .block ?_|refine .skip ?_|refine .ret ?_|refine .exit ?_|refine .yes rfl ?_|refine .no rfl ?_|refine .nil ?_|refine .go ?_|refine .thenExit ?_|refine .thenRet ?_|refine .inExit ?_|refine .outExit rfl ?_|refine .inNormal ?_|refine .inRet ?_|refine .off rfl rfl ?_|refine .offU rfl rfl rfl ?_|(apply W.y rfl rfl;first|exact .move rfl|exact .assign rfl|exact .fieldC rfl|exact .loadW rfl (by (first|apply Ld.oneC|apply Ld.two|apply Ld.three|apply Ld.four|apply Ld.five);repeat(first|assumption|exact Row.cell (by assumption) (by first|rfl|assumption)))|exact .nilCheck rfl|exact .lenC rfl|exact .lenStrC rfl|exact .extract rfl rfl|exact .not rfl|exact .pickT rfl rfl|exact .pickF rfl rfl|exact .buildC rfl rfl|exact .indexC _ rfl rfl rfl (by omega)|exact .indexC 0 rfl rfl rfl (by omega)|exact .indexC 1 rfl rfl rfl (by omega)|exact .indexC 2 rfl rfl rfl (by omega)|exact .indexArrC _ rfl rfl rfl (by omega)|exact .indexArrC 0 rfl rfl rfl (by omega)|exact .indexArrC 1 rfl rfl rfl (by omega)|exact .indexArrC 2 rfl rfl rfl (by omega)|exact .add _ rfl rfl (wrap_i64 (by omega))|exact .sub _ rfl rfl (wrap_i64 (by omega))|exact .rem _ rfl rfl (by decide) (Int.tmod_eq_emod_of_nonneg (by omega))|exact .cmpT rfl rfl rfl (by dsimp only [cmpP];omega)|exact .cmpF rfl rfl rfl (by dsimp only [cmpP];omega)))
  exact E.ret1 rfl rfl ⟨hcl, rfl⟩

theorem drop_new2 {cs : List Value} {a b : Value} {i : Nat} (h : cs.length = i * 2) : (((cs ++ [a, b]).drop (i * 2)).take 2) = [a, b] := by
  rw [← h, List.drop_left]; rfl
/-- What a Range takes of a list. -/
def rng (to : Bs) : Nat → List Pr → List Pr
  | 0, _ => []
  | _ + 1, [] => []
  | m + 1, p :: l => if 0 < to.length ∧ 0 ≤ Lib.compareBytes p.1 to then [] else p :: rng to m l
theorem rng_nil (to : Bs) : ∀ m, rng to m [] = []
  | 0 => rfl
  | _ + 1 => rfl
theorem rng_length (to : Bs) : ∀ (m : Nat) (l : List Pr), (rng to m l).length ≤ l.length
  | 0, _ => Nat.zero_le _
  | _ + 1, [] => Nat.zero_le _
  | m + 1, p :: l => by
    have := rng_length to m l
    unfold rng
    split <;> simp <;> omega

set_option maxHeartbeats 6400000 in
theorem range_spec (F G : Nat → Prop) (bt : Nat) (t : Tr) (vf vt : Value) (from_ to : Bs) (most : Int) (w : World) (h : TreeAt F w bt t) (hf : Bytes G w vf from_) (ht : Bytes G w vt to) (hc : t.count ≤ 1099511627) :
    Meets Try.prog 12 #[.pointer (some ⟨bt, 0, none⟩), vf, vt, .int .i64 most] w (fun r w' => Pairs (Fresh w w') w' r (rng to most.toNat (t.toList.drop (t.rank from_))) ∧ Keep Non w w') := by
  have hrk := t.rank_le from_
  have htl := t.toList_length
  refine Meets.enter Try.func12 Try.ntmps12 rfl rfl ?_
  (repeat first|refine .seq ?_|refine .region ?_|refine .block ?_|refine .skip ?_|refine .ret ?_|refine .exit ?_|refine .yes rfl ?_|refine .no rfl ?_|refine .nil ?_|refine .go ?_|refine .thenExit ?_|refine .thenRet ?_|refine .inExit ?_|refine .outExit rfl ?_|refine .inNormal ?_|refine .inRet ?_|refine .off rfl rfl ?_|refine .offU rfl rfl rfl ?_|(apply W.y rfl rfl;first|exact .move rfl|exact .assign rfl|exact .fieldC rfl|exact .loadW rfl (by (first|apply Ld.oneC|apply Ld.two|apply Ld.three|apply Ld.four|apply Ld.five);repeat(first|assumption|exact Row.cell (by assumption) (by first|rfl|assumption)))|exact .nilCheck rfl|exact .lenC rfl|exact .lenStrC rfl|exact .extract rfl rfl|exact .not rfl|exact .pickT rfl rfl|exact .pickF rfl rfl|exact .buildC rfl rfl|exact .indexC _ rfl rfl rfl (by omega)|exact .indexC 0 rfl rfl rfl (by omega)|exact .indexC 1 rfl rfl rfl (by omega)|exact .indexC 2 rfl rfl rfl (by omega)|exact .indexArrC _ rfl rfl rfl (by omega)|exact .indexArrC 0 rfl rfl rfl (by omega)|exact .indexArrC 1 rfl rfl rfl (by omega)|exact .indexArrC 2 rfl rfl rfl (by omega)|exact .add _ rfl rfl (wrap_i64 (by omega))|exact .sub _ rfl rfl (wrap_i64 (by omega))|exact .rem _ rfl rfl (by decide) (Int.tmod_eq_emod_of_nonneg (by omega))|exact .cmpT rfl rfl rfl (by dsimp only [cmpP];omega)|exact .cmpF rfl rfl rfl (by dsimp only [cmpP];omega)))
  refine W.st rfl rfl (St.callC rfl (rank_spec F G bt t vf from_ w h hf (by omega))) (fun v1 w1 h1 => ?_)
  obtain ⟨rfl, rfl⟩ := h1
  (repeat first|refine .seq ?_|refine .region ?_|refine .block ?_|refine .skip ?_|refine .ret ?_|refine .exit ?_|refine .yes rfl ?_|refine .no rfl ?_|refine .nil ?_|refine .go ?_|refine .thenExit ?_|refine .thenRet ?_|refine .inExit ?_|refine .outExit rfl ?_|refine .inNormal ?_|refine .inRet ?_|refine .off rfl rfl ?_|refine .offU rfl rfl rfl ?_|(apply W.y rfl rfl;first|exact .move rfl|exact .assign rfl|exact .fieldC rfl|exact .loadW rfl (by (first|apply Ld.oneC|apply Ld.two|apply Ld.three|apply Ld.four|apply Ld.five);repeat(first|assumption|exact Row.cell (by assumption) (by first|rfl|assumption)))|exact .nilCheck rfl|exact .lenC rfl|exact .lenStrC rfl|exact .extract rfl rfl|exact .not rfl|exact .pickT rfl rfl|exact .pickF rfl rfl|exact .buildC rfl rfl|exact .indexC _ rfl rfl rfl (by omega)|exact .indexC 0 rfl rfl rfl (by omega)|exact .indexC 1 rfl rfl rfl (by omega)|exact .indexC 2 rfl rfl rfl (by omega)|exact .indexArrC _ rfl rfl rfl (by omega)|exact .indexArrC 0 rfl rfl rfl (by omega)|exact .indexArrC 1 rfl rfl rfl (by omega)|exact .indexArrC 2 rfl rfl rfl (by omega)|exact .add _ rfl rfl (wrap_i64 (by omega))|exact .sub _ rfl rfl (wrap_i64 (by omega))|exact .rem _ rfl rfl (by decide) (Int.tmod_eq_emod_of_nonneg (by omega))|exact .cmpT rfl rfl rfl (by dsimp only [cmpP];omega)|exact .cmpF rfl rfl rfl (by dsimp only [cmpP];omega)))
  refine C.loop (fun m L w' => ∃ (done : List Pr) (vo : Value) (cs : List Value), L = [(0, .pointer (some ⟨bt, 0, none⟩)), (2, vt), (3, .int .i64 most), (9, vo), (10, .int .i64 ((t.rank from_ + done.length : Nat) : Int))] ∧ m = t.count - done.length ∧ t.rank from_ + done.length ≤ t.count ∧ w'.ownsRow w1.heap.size 32 2 vo done.length cs ∧ Keep Non w1 w' ∧
      done ++ rng to (most.toNat - done.length) (t.toList.drop (t.rank from_ + done.length)) = rng to most.toNat (t.toList.drop (t.rank from_)) ∧
      ∀ j x, done[j]? = some x → RPair (fun k => Fresh w1 w' k ∧ vo.ownBlock ≠ some k) w' ((cs.drop (j * 2)).take 2) x) t.count _ ⟨[], _, [], rfl, by simp, by simpa using hrk, World.ownsRow_nil _ _ _ _, Keep.refl _ _, by simp, fun j x hj => by simp at hj⟩ ⟨rfl, rfl, rfl, rfl, some_int (by simp), trivial⟩ ?_
  rintro m L w' ⟨done, vo, cs, rfl, rfl, hi, hown, hk, hrng, hcs⟩
  obtain ⟨A, c, rfl⟩ : ∃ A c, vo = .slice A done.length c := by
    rcases hown.2 with ⟨e1, e2⟩ | ⟨g, cap, cur, rfl, _⟩
    · exact ⟨none, 0, by rw [e1, e2]⟩
    · exact ⟨_, _, rfl⟩
  have hfin : done = rng to most.toNat (t.toList.drop (t.rank from_)) → Pairs (Fresh w1 w') w' (.slice A done.length c) (rng to most.toNat (t.toList.drop (t.rank from_))) := fun e => by
    rw [← e]
    exact Sl.of_own hown rfl (by omega) (fun b hb => hown.lt b hb) (fun j x hj => RPair.mono (fun _ h => h.1) (hcs j x hj))
  have hend : done = rng to most.toNat (t.toList.drop (t.rank from_)) → ∀ w6, Keep Non w' w6 → Pairs (Fresh w1 w6) w6 (.slice A done.length c) (rng to most.toNat (t.toList.drop (t.rank from_))) := fun e w6 k6 =>
    (hfin e).keep k6 (fun k _ => non_not k) |>.mono (Fresh.mono k6.size)
  have h' := h.up hk
  (repeat first|refine .seq ?_|refine .region ?_|refine .block ?_|refine .skip ?_|refine .ret ?_|refine .exit ?_|refine .yes rfl ?_|refine .no rfl ?_|refine .nil ?_|refine .go ?_|refine .thenExit ?_|refine .thenRet ?_|refine .inExit ?_|refine .outExit rfl ?_|refine .inNormal ?_|refine .inRet ?_|refine .off rfl rfl ?_|refine .offU rfl rfl rfl ?_|(apply W.y rfl rfl;first|exact .move rfl|exact .assign rfl|exact .fieldC rfl|exact .loadW rfl (by (first|apply Ld.oneC|apply Ld.two|apply Ld.three|apply Ld.four|apply Ld.five);repeat(first|assumption|exact Row.cell (by assumption) (by first|rfl|assumption)))|exact .nilCheck rfl|exact .lenC rfl|exact .lenStrC rfl|exact .extract rfl rfl|exact .not rfl|exact .pickT rfl rfl|exact .pickF rfl rfl|exact .buildC rfl rfl|exact .indexC _ rfl rfl rfl (by omega)|exact .indexC 0 rfl rfl rfl (by omega)|exact .indexC 1 rfl rfl rfl (by omega)|exact .indexC 2 rfl rfl rfl (by omega)|exact .indexArrC _ rfl rfl rfl (by omega)|exact .indexArrC 0 rfl rfl rfl (by omega)|exact .indexArrC 1 rfl rfl rfl (by omega)|exact .indexArrC 2 rfl rfl rfl (by omega)|exact .add _ rfl rfl (wrap_i64 (by omega))|exact .sub _ rfl rfl (wrap_i64 (by omega))|exact .rem _ rfl rfl (by decide) (Int.tmod_eq_emod_of_nonneg (by omega))|exact .cmpT rfl rfl rfl (by dsimp only [cmpP];omega)|exact .cmpF rfl rfl rfl (by dsimp only [cmpP];omega)))
  refine W.st rfl rfl (St.callC rfl (len_spec F bt t w' h')) (fun v2 w2 h2 => ?_)
  obtain ⟨rfl, rfl⟩ := h2
  by_cases hlt : t.rank from_ + done.length < t.count
  · by_cases hm : (done.length : Int) < most
    · (repeat first|refine .seq ?_|refine .region ?_|refine .block ?_|refine .skip ?_|refine .ret ?_|refine .exit ?_|refine .yes rfl ?_|refine .no rfl ?_|refine .nil ?_|refine .go ?_|refine .thenExit ?_|refine .thenRet ?_|refine .inExit ?_|refine .outExit rfl ?_|refine .inNormal ?_|refine .inRet ?_|refine .off rfl rfl ?_|refine .offU rfl rfl rfl ?_|(apply W.y rfl rfl;first|exact .move rfl|exact .assign rfl|exact .fieldC rfl|exact .loadW rfl (by (first|apply Ld.oneC|apply Ld.two|apply Ld.three|apply Ld.four|apply Ld.five);repeat(first|assumption|exact Row.cell (by assumption) (by first|rfl|assumption)))|exact .nilCheck rfl|exact .lenC rfl|exact .lenStrC rfl|exact .extract rfl rfl|exact .not rfl|exact .pickT rfl rfl|exact .pickF rfl rfl|exact .buildC rfl rfl|exact .indexC _ rfl rfl rfl (by omega)|exact .indexC 0 rfl rfl rfl (by omega)|exact .indexC 1 rfl rfl rfl (by omega)|exact .indexC 2 rfl rfl rfl (by omega)|exact .indexArrC _ rfl rfl rfl (by omega)|exact .indexArrC 0 rfl rfl rfl (by omega)|exact .indexArrC 1 rfl rfl rfl (by omega)|exact .indexArrC 2 rfl rfl rfl (by omega)|exact .add _ rfl rfl (wrap_i64 (by omega))|exact .sub _ rfl rfl (wrap_i64 (by omega))|exact .rem _ rfl rfl (by decide) (Int.tmod_eq_emod_of_nonneg (by omega))|exact .cmpT rfl rfl rfl (by dsimp only [cmpP];omega)|exact .cmpF rfl rfl rfl (by dsimp only [cmpP];omega)))
      refine W.st rfl rfl (St.callC rfl (at_spec F bt t ((t.rank from_ + done.length : Nat) : Int) w2 h' (by omega))) (fun v3 w3 h3 => ?_)
      rw [if_pos (by omega), if_pos (by omega), if_pos (by omega)] at h3
      obtain ⟨rk, rx, rfl, h3k, h3x, k3⟩ := h3
      simp only [Int.toNat_natCast] at h3k h3x
      have s3 := k3.size
      (repeat first|refine .seq ?_|refine .region ?_|refine .block ?_|refine .skip ?_|refine .ret ?_|refine .exit ?_|refine .yes rfl ?_|refine .no rfl ?_|refine .nil ?_|refine .go ?_|refine .thenExit ?_|refine .thenRet ?_|refine .inExit ?_|refine .outExit rfl ?_|refine .inNormal ?_|refine .inRet ?_|refine .off rfl rfl ?_|refine .offU rfl rfl rfl ?_|(apply W.y rfl rfl;first|exact .move rfl|exact .assign rfl|exact .fieldC rfl|exact .loadW rfl (by (first|apply Ld.oneC|apply Ld.two|apply Ld.three|apply Ld.four|apply Ld.five);repeat(first|assumption|exact Row.cell (by assumption) (by first|rfl|assumption)))|exact .nilCheck rfl|exact .lenC rfl|exact .lenStrC rfl|exact .extract rfl rfl|exact .not rfl|exact .pickT rfl rfl|exact .pickF rfl rfl|exact .buildC rfl rfl|exact .indexC _ rfl rfl rfl (by omega)|exact .indexC 0 rfl rfl rfl (by omega)|exact .indexC 1 rfl rfl rfl (by omega)|exact .indexC 2 rfl rfl rfl (by omega)|exact .indexArrC _ rfl rfl rfl (by omega)|exact .indexArrC 0 rfl rfl rfl (by omega)|exact .indexArrC 1 rfl rfl rfl (by omega)|exact .indexArrC 2 rfl rfl rfl (by omega)|exact .add _ rfl rfl (wrap_i64 (by omega))|exact .sub _ rfl rfl (wrap_i64 (by omega))|exact .rem _ rfl rfl (by decide) (Int.tmod_eq_emod_of_nonneg (by omega))|exact .cmpT rfl rfl rfl (by dsimp only [cmpP];omega)|exact .cmpF rfl rfl rfl (by dsimp only [cmpP];omega)))
      refine W.st rfl rfl St.allocC (fun v4 w4 hv => ?_)
      obtain ⟨b4, rfl, hN4⟩ := hv
      have hr4 := hN4.row
      have s4 := hN4.size
      have a4 := hN4.at_
      refine W.st0 rfl (St.storeC rfl rfl rfl hr4 (by simp [Value.cells]) (one2 (slice_one h3k) (slice_one h3x))) (fun v5 w5 h5 => ?_)
      have hr5 := h5.row
      have s5 := h5.size
      have k35 : Keep Non w3 w5 := hN4.keep.put h5 (by omega)
      have k5 := k3.then k35
      have hk5 := hk.then k5
      have hg := t.toList_get _ hlt
      have hdl := (List.getElem?_eq_some_iff.1 hg).1
      have hge := (List.getElem?_eq_some_iff.1 hg).2
      rw [List.drop_eq_getElem_cons hdl, hge] at hrng
      obtain ⟨mm, hmm⟩ : ∃ mm, most.toNat - done.length = mm + 1 := ⟨most.toNat - done.length - 1, by omega⟩
      rw [hmm] at hrng
      have htv := ht.keep hk5 (fun k _ => non_not k)
      have h3k5 := h3k.keep k35 (fun k _ => non_not k)
      obtain ⟨At, ct, rfl, _⟩ := id ht
      have hstop : 0 < to.length ∧ 0 ≤ Lib.compareBytes (t.get (t.rank from_ + done.length)).1 to → done = rng to most.toNat (t.toList.drop (t.rank from_)) := fun hs => by
        rw [← hrng]
        unfold rng
        rw [if_pos hs, List.append_nil]
      have hgo : ¬ (0 < to.length ∧ 0 ≤ Lib.compareBytes (t.get (t.rank from_ + done.length)).1 to) → (done ++ [t.get (t.rank from_ + done.length)]) ++ rng to (most.toNat - (done ++ [t.get (t.rank from_ + done.length)]).length) (t.toList.drop (t.rank from_ + (done ++ [t.get (t.rank from_ + done.length)]).length)) = rng to most.toNat (t.toList.drop (t.rank from_)) := fun hs => by
        rw [← hrng]
        conv => rhs; unfold rng
        rw [if_neg hs, List.append_assoc]
        have e1 : most.toNat - (done ++ [t.get (t.rank from_ + done.length)]).length = mm := by simp; omega
        have e2 : t.rank from_ + (done ++ [t.get (t.rank from_ + done.length)]).length = t.rank from_ + done.length + 1 := by simp; omega
        rw [e1, e2]
        rfl
      iterate 3 (first|refine .seq ?_|refine .region ?_|refine .block ?_|refine .skip ?_|refine .ret ?_|refine .exit ?_|refine .yes rfl ?_|refine .no rfl ?_|refine .nil ?_|refine .go ?_|refine .thenExit ?_|refine .thenRet ?_|refine .inExit ?_|refine .outExit rfl ?_|refine .inNormal ?_|refine .inRet ?_|refine .off rfl rfl ?_|refine .offU rfl rfl rfl ?_|(apply W.y rfl rfl;first|exact .move rfl|exact .assign rfl|exact .fieldC rfl|exact .loadW rfl (by (first|apply Ld.oneC|apply Ld.two|apply Ld.three|apply Ld.four|apply Ld.five);repeat(first|assumption|exact Row.cell (by assumption) (by first|rfl|assumption)))|exact .nilCheck rfl|exact .lenC rfl|exact .lenStrC rfl|exact .extract rfl rfl|exact .not rfl|exact .pickT rfl rfl|exact .pickF rfl rfl|exact .buildC rfl rfl|exact .indexC _ rfl rfl rfl (by omega)|exact .indexC 0 rfl rfl rfl (by omega)|exact .indexC 1 rfl rfl rfl (by omega)|exact .indexC 2 rfl rfl rfl (by omega)|exact .indexArrC _ rfl rfl rfl (by omega)|exact .indexArrC 0 rfl rfl rfl (by omega)|exact .indexArrC 1 rfl rfl rfl (by omega)|exact .indexArrC 2 rfl rfl rfl (by omega)|exact .add _ rfl rfl (wrap_i64 (by omega))|exact .sub _ rfl rfl (wrap_i64 (by omega))|exact .rem _ rfl rfl (by decide) (Int.tmod_eq_emod_of_nonneg (by omega))|exact .cmpT rfl rfl rfl (by dsimp only [cmpP];omega)|exact .cmpF rfl rfl rfl (by dsimp only [cmpP];omega)))
      refine C.cut (fun L w6 => L = [(0, .pointer (some ⟨bt, 0, none⟩)), (2, .slice At to.length ct), (3, .int .i64 most), (9, .slice A done.length c), (10, .int .i64 ((t.rank from_ + done.length : Nat) : Int)), (11, .pointer (some ⟨b4, 0, none⟩))] ∧ w6 = w5 ∧ ¬ (0 < to.length ∧ 0 ≤ Lib.compareBytes (t.get (t.rank from_ + done.length)).1 to)) ?_ ?_
      · by_cases hto : 0 < to.length
        · (repeat first|refine .seq ?_|refine .region ?_|refine .block ?_|refine .skip ?_|refine .ret ?_|refine .exit ?_|refine .yes rfl ?_|refine .no rfl ?_|refine .nil ?_|refine .go ?_|refine .thenExit ?_|refine .thenRet ?_|refine .inExit ?_|refine .outExit rfl ?_|refine .inNormal ?_|refine .inRet ?_|refine .off rfl rfl ?_|refine .offU rfl rfl rfl ?_|(apply W.y rfl rfl;first|exact .move rfl|exact .assign rfl|exact .fieldC rfl|exact .loadW rfl (by (first|apply Ld.oneC|apply Ld.two|apply Ld.three|apply Ld.four|apply Ld.five);repeat(first|assumption|exact Row.cell (by assumption) (by first|rfl|assumption)))|exact .nilCheck rfl|exact .lenC rfl|exact .lenStrC rfl|exact .extract rfl rfl|exact .not rfl|exact .pickT rfl rfl|exact .pickF rfl rfl|exact .buildC rfl rfl|exact .indexC _ rfl rfl rfl (by omega)|exact .indexC 0 rfl rfl rfl (by omega)|exact .indexC 1 rfl rfl rfl (by omega)|exact .indexC 2 rfl rfl rfl (by omega)|exact .indexArrC _ rfl rfl rfl (by omega)|exact .indexArrC 0 rfl rfl rfl (by omega)|exact .indexArrC 1 rfl rfl rfl (by omega)|exact .indexArrC 2 rfl rfl rfl (by omega)|exact .add _ rfl rfl (wrap_i64 (by omega))|exact .sub _ rfl rfl (wrap_i64 (by omega))|exact .rem _ rfl rfl (by decide) (Int.tmod_eq_emod_of_nonneg (by omega))|exact .cmpT rfl rfl rfl (by dsimp only [cmpP];omega)|exact .cmpF rfl rfl rfl (by dsimp only [cmpP];omega)))
          refine W.st rfl rfl (St.callC rfl (compare_spec _ G _ _ _ to w5 h3k5 htv)) (fun v6 w6 h6 => ?_)
          obtain ⟨rfl, rfl⟩ := h6
          by_cases hcm : 0 ≤ Lib.compareBytes (t.get (t.rank from_ + done.length)).1 to
          · (repeat first|refine .seq ?_|refine .region ?_|refine .block ?_|refine .skip ?_|refine .ret ?_|refine .exit ?_|refine .yes rfl ?_|refine .no rfl ?_|refine .nil ?_|refine .go ?_|refine .thenExit ?_|refine .thenRet ?_|refine .inExit ?_|refine .outExit rfl ?_|refine .inNormal ?_|refine .inRet ?_|refine .off rfl rfl ?_|refine .offU rfl rfl rfl ?_|(apply W.y rfl rfl;first|exact .move rfl|exact .assign rfl|exact .fieldC rfl|exact .loadW rfl (by (first|apply Ld.oneC|apply Ld.two|apply Ld.three|apply Ld.four|apply Ld.five);repeat(first|assumption|exact Row.cell (by assumption) (by first|rfl|assumption)))|exact .nilCheck rfl|exact .lenC rfl|exact .lenStrC rfl|exact .extract rfl rfl|exact .not rfl|exact .pickT rfl rfl|exact .pickF rfl rfl|exact .buildC rfl rfl|exact .indexC _ rfl rfl rfl (by omega)|exact .indexC 0 rfl rfl rfl (by omega)|exact .indexC 1 rfl rfl rfl (by omega)|exact .indexC 2 rfl rfl rfl (by omega)|exact .indexArrC _ rfl rfl rfl (by omega)|exact .indexArrC 0 rfl rfl rfl (by omega)|exact .indexArrC 1 rfl rfl rfl (by omega)|exact .indexArrC 2 rfl rfl rfl (by omega)|exact .add _ rfl rfl (wrap_i64 (by omega))|exact .sub _ rfl rfl (wrap_i64 (by omega))|exact .rem _ rfl rfl (by decide) (Int.tmod_eq_emod_of_nonneg (by omega))|exact .cmpT rfl rfl rfl (by dsimp only [cmpP];omega)|exact .cmpF rfl rfl rfl (by dsimp only [cmpP];omega)))
            refine W.st rfl rfl (St.callC rfl (clip_spec _ _ _ w6 (hend (hstop ⟨hto, hcm⟩) w6 k5))) (fun v8 w8 h8 => ?_)
            obtain ⟨h8, rfl⟩ := h8
            (repeat first|refine .seq ?_|refine .region ?_|refine .block ?_|refine .skip ?_|refine .ret ?_|refine .exit ?_|refine .yes rfl ?_|refine .no rfl ?_|refine .nil ?_|refine .go ?_|refine .thenExit ?_|refine .thenRet ?_|refine .inExit ?_|refine .outExit rfl ?_|refine .inNormal ?_|refine .inRet ?_|refine .off rfl rfl ?_|refine .offU rfl rfl rfl ?_|(apply W.y rfl rfl;first|exact .move rfl|exact .assign rfl|exact .fieldC rfl|exact .loadW rfl (by (first|apply Ld.oneC|apply Ld.two|apply Ld.three|apply Ld.four|apply Ld.five);repeat(first|assumption|exact Row.cell (by assumption) (by first|rfl|assumption)))|exact .nilCheck rfl|exact .lenC rfl|exact .lenStrC rfl|exact .extract rfl rfl|exact .not rfl|exact .pickT rfl rfl|exact .pickF rfl rfl|exact .buildC rfl rfl|exact .indexC _ rfl rfl rfl (by omega)|exact .indexC 0 rfl rfl rfl (by omega)|exact .indexC 1 rfl rfl rfl (by omega)|exact .indexC 2 rfl rfl rfl (by omega)|exact .indexArrC _ rfl rfl rfl (by omega)|exact .indexArrC 0 rfl rfl rfl (by omega)|exact .indexArrC 1 rfl rfl rfl (by omega)|exact .indexArrC 2 rfl rfl rfl (by omega)|exact .add _ rfl rfl (wrap_i64 (by omega))|exact .sub _ rfl rfl (wrap_i64 (by omega))|exact .rem _ rfl rfl (by decide) (Int.tmod_eq_emod_of_nonneg (by omega))|exact .cmpT rfl rfl rfl (by dsimp only [cmpP];omega)|exact .cmpF rfl rfl rfl (by dsimp only [cmpP];omega)))
            exact E.ret1 rfl rfl ⟨h8, hk5⟩
          · (repeat first|refine .seq ?_|refine .region ?_|refine .block ?_|refine .skip ?_|refine .ret ?_|refine .exit ?_|refine .yes rfl ?_|refine .no rfl ?_|refine .nil ?_|refine .go ?_|refine .thenExit ?_|refine .thenRet ?_|refine .inExit ?_|refine .outExit rfl ?_|refine .inNormal ?_|refine .inRet ?_|refine .off rfl rfl ?_|refine .offU rfl rfl rfl ?_|(apply W.y rfl rfl;first|exact .move rfl|exact .assign rfl|exact .fieldC rfl|exact .loadW rfl (by (first|apply Ld.oneC|apply Ld.two|apply Ld.three|apply Ld.four|apply Ld.five);repeat(first|assumption|exact Row.cell (by assumption) (by first|rfl|assumption)))|exact .nilCheck rfl|exact .lenC rfl|exact .lenStrC rfl|exact .extract rfl rfl|exact .not rfl|exact .pickT rfl rfl|exact .pickF rfl rfl|exact .buildC rfl rfl|exact .indexC _ rfl rfl rfl (by omega)|exact .indexC 0 rfl rfl rfl (by omega)|exact .indexC 1 rfl rfl rfl (by omega)|exact .indexC 2 rfl rfl rfl (by omega)|exact .indexArrC _ rfl rfl rfl (by omega)|exact .indexArrC 0 rfl rfl rfl (by omega)|exact .indexArrC 1 rfl rfl rfl (by omega)|exact .indexArrC 2 rfl rfl rfl (by omega)|exact .add _ rfl rfl (wrap_i64 (by omega))|exact .sub _ rfl rfl (wrap_i64 (by omega))|exact .rem _ rfl rfl (by decide) (Int.tmod_eq_emod_of_nonneg (by omega))|exact .cmpT rfl rfl rfl (by dsimp only [cmpP];omega)|exact .cmpF rfl rfl rfl (by dsimp only [cmpP];omega)))
            exact E.meet _ ⟨rfl, rfl, fun h => hcm h.2⟩ ⟨rfl, rfl, rfl, rfl, rfl, rfl, trivial⟩
        · (repeat first|refine .seq ?_|refine .region ?_|refine .block ?_|refine .skip ?_|refine .ret ?_|refine .exit ?_|refine .yes rfl ?_|refine .no rfl ?_|refine .nil ?_|refine .go ?_|refine .thenExit ?_|refine .thenRet ?_|refine .inExit ?_|refine .outExit rfl ?_|refine .inNormal ?_|refine .inRet ?_|refine .off rfl rfl ?_|refine .offU rfl rfl rfl ?_|(apply W.y rfl rfl;first|exact .move rfl|exact .assign rfl|exact .fieldC rfl|exact .loadW rfl (by (first|apply Ld.oneC|apply Ld.two|apply Ld.three|apply Ld.four|apply Ld.five);repeat(first|assumption|exact Row.cell (by assumption) (by first|rfl|assumption)))|exact .nilCheck rfl|exact .lenC rfl|exact .lenStrC rfl|exact .extract rfl rfl|exact .not rfl|exact .pickT rfl rfl|exact .pickF rfl rfl|exact .buildC rfl rfl|exact .indexC _ rfl rfl rfl (by omega)|exact .indexC 0 rfl rfl rfl (by omega)|exact .indexC 1 rfl rfl rfl (by omega)|exact .indexC 2 rfl rfl rfl (by omega)|exact .indexArrC _ rfl rfl rfl (by omega)|exact .indexArrC 0 rfl rfl rfl (by omega)|exact .indexArrC 1 rfl rfl rfl (by omega)|exact .indexArrC 2 rfl rfl rfl (by omega)|exact .add _ rfl rfl (wrap_i64 (by omega))|exact .sub _ rfl rfl (wrap_i64 (by omega))|exact .rem _ rfl rfl (by decide) (Int.tmod_eq_emod_of_nonneg (by omega))|exact .cmpT rfl rfl rfl (by dsimp only [cmpP];omega)|exact .cmpF rfl rfl rfl (by dsimp only [cmpP];omega)))
          exact E.meet _ ⟨rfl, rfl, fun h => hto h.1⟩ ⟨rfl, rfl, rfl, rfl, rfl, rfl, trivial⟩
      · rintro L w6 ⟨rfl, rfl, hns⟩
        have hgo' := hgo hns
        generalize t.get (t.rank from_ + done.length) = px at *
        (repeat first|refine .seq ?_|refine .region ?_|refine .block ?_|refine .skip ?_|refine .ret ?_|refine .exit ?_|refine .yes rfl ?_|refine .no rfl ?_|refine .nil ?_|refine .go ?_|refine .thenExit ?_|refine .thenRet ?_|refine .inExit ?_|refine .outExit rfl ?_|refine .inNormal ?_|refine .inRet ?_|refine .off rfl rfl ?_|refine .offU rfl rfl rfl ?_|(apply W.y rfl rfl;first|exact .move rfl|exact .assign rfl|exact .fieldC rfl|exact .loadW rfl (by (first|apply Ld.oneC|apply Ld.two|apply Ld.three|apply Ld.four|apply Ld.five);repeat(first|assumption|exact Row.cell (by assumption) (by first|rfl|assumption)))|exact .nilCheck rfl|exact .lenC rfl|exact .lenStrC rfl|exact .extract rfl rfl|exact .not rfl|exact .pickT rfl rfl|exact .pickF rfl rfl|exact .buildC rfl rfl|exact .indexC _ rfl rfl rfl (by omega)|exact .indexC 0 rfl rfl rfl (by omega)|exact .indexC 1 rfl rfl rfl (by omega)|exact .indexC 2 rfl rfl rfl (by omega)|exact .indexArrC _ rfl rfl rfl (by omega)|exact .indexArrC 0 rfl rfl rfl (by omega)|exact .indexArrC 1 rfl rfl rfl (by omega)|exact .indexArrC 2 rfl rfl rfl (by omega)|exact .add _ rfl rfl (wrap_i64 (by omega))|exact .sub _ rfl rfl (wrap_i64 (by omega))|exact .rem _ rfl rfl (by decide) (Int.tmod_eq_emod_of_nonneg (by omega))|exact .cmpT rfl rfl rfl (by dsimp only [cmpP];omega)|exact .cmpF rfl rfl rfl (by dsimp only [cmpP];omega)))
        refine W.st rfl rfl (St.lit (vs := [.agg #[rk, rx]]) rfl rfl (by omega) (fun v hv => by simp only [List.mem_singleton] at hv; subst hv; rfl)) (fun v7 w7 h7 => ?_)
        obtain ⟨b7, rfl, hN7⟩ := h7
        have s7 := hN7.size
        have a7 := hN7.at_
        have ho7 := own_keep hN7.keep (own_keep k5 hown (fun _ _ => non_not _)) (fun _ _ => non_not _)
        have hlt7 := hown.lt
        have hl7 := hown.1
        have s0 := hk.size
        refine W.st rfl rfl (St.appendC w1.heap.size [rk, rx] rfl rfl ho7 (hN7.row.cells 0 _ rfl) rfl (one2 (slice_one h3k) (slice_one h3x)) (by omega) (by omega)) (fun v8 w8 h8 => ?_)
        obtain ⟨h8, k8, h8b⟩ := h8
        have s8 := k8.size
        (repeat first|refine .seq ?_|refine .region ?_|refine .block ?_|refine .skip ?_|refine .ret ?_|refine .exit ?_|refine .yes rfl ?_|refine .no rfl ?_|refine .nil ?_|refine .go ?_|refine .thenExit ?_|refine .thenRet ?_|refine .inExit ?_|refine .outExit rfl ?_|refine .inNormal ?_|refine .inRet ?_|refine .off rfl rfl ?_|refine .offU rfl rfl rfl ?_|(apply W.y rfl rfl;first|exact .move rfl|exact .assign rfl|exact .fieldC rfl|exact .loadW rfl (by (first|apply Ld.oneC|apply Ld.two|apply Ld.three|apply Ld.four|apply Ld.five);repeat(first|assumption|exact Row.cell (by assumption) (by first|rfl|assumption)))|exact .nilCheck rfl|exact .lenC rfl|exact .lenStrC rfl|exact .extract rfl rfl|exact .not rfl|exact .pickT rfl rfl|exact .pickF rfl rfl|exact .buildC rfl rfl|exact .indexC _ rfl rfl rfl (by omega)|exact .indexC 0 rfl rfl rfl (by omega)|exact .indexC 1 rfl rfl rfl (by omega)|exact .indexC 2 rfl rfl rfl (by omega)|exact .indexArrC _ rfl rfl rfl (by omega)|exact .indexArrC 0 rfl rfl rfl (by omega)|exact .indexArrC 1 rfl rfl rfl (by omega)|exact .indexArrC 2 rfl rfl rfl (by omega)|exact .add _ rfl rfl (wrap_i64 (by omega))|exact .sub _ rfl rfl (wrap_i64 (by omega))|exact .rem _ rfl rfl (by decide) (Int.tmod_eq_emod_of_nonneg (by omega))|exact .cmpT rfl rfl rfl (by dsimp only [cmpP];omega)|exact .cmpF rfl rfl rfl (by dsimp only [cmpP];omega)))
        have k57 := k5.then hN7.keep
        have hk8 := (hk.then k57).far k8 (fun j hj => by have := hlt7 j hj.symm; omega)
        refine E.again _ _ ?_ ⟨done ++ [px], v8, _, rfl, rfl, by simp; omega, by simpa using h8, hk8, hgo', fun j x hj => ?_⟩ ⟨rfl, rfl, rfl, rfl, some_int (by simp; omega), trivial⟩
        · simp; omega
        · by_cases hjd : j = done.length
          · subst hjd
            rw [drop_new2 hl7]
            simp only [List.getElem?_concat_length, Option.some.injEq] at hj
            subst hj
            have h3k8 := (h3k.keep (k35.then hN7.keep) (fun k _ => non_not k)).keep k8 (fun k hk' h => by have := hlt7 k h.symm; have := hk'.1; omega)
            have h3x8 := (h3x.keep (k35.then hN7.keep) (fun k _ => non_not k)).keep k8 (fun k hk' h => by have := hlt7 k h.symm; have := hk'.1; omega)
            have hup : ∀ k, Fresh w2 w3 k → Fresh w1 w8 k ∧ v8.ownBlock ≠ some k := fun k hk' => ⟨⟨by have := hk'.1; omega, by have := hk'.2; omega⟩, fun e => by
              have h12 := hk'.1
              have h13 := hk'.2
              rcases h8b with h8b | h8b <;> rw [h8b] at e
              · have := hlt7 k e; omega
              · cases e; omega⟩
            exact ⟨rk, rx, rfl, h3k8.mono hup, h3x8.mono hup⟩
          · have hj' : j < done.length := by have := (List.getElem?_eq_some_iff.1 hj).1; simp at this; omega
            rw [List.getElem?_append_left hj'] at hj
            rw [drop_old cs [rk, rx] done.length j 2 hl7 hj']
            refine RPair.mono (fun k hk' => ⟨⟨hk'.1.1, by have := hk'.1.2; omega⟩, fun e => ?_⟩) (RPair.stable _ _ _ _ _ k8 (fun k hk' h => hk'.2 h.symm) (RPair.stable _ _ _ _ _ k57 (fun k _ => non_not k) (hcs j x hj)))
            have h9 := hk'.1.2
            rcases h8b with h8b | h8b <;> rw [h8b] at e
            · exact hk'.2 e
            · cases e; omega
    · have e0 : most.toNat - done.length = 0 := by omega
      rw [e0] at hrng
      (repeat first|refine .seq ?_|refine .region ?_|refine .block ?_|refine .skip ?_|refine .ret ?_|refine .exit ?_|refine .yes rfl ?_|refine .no rfl ?_|refine .nil ?_|refine .go ?_|refine .thenExit ?_|refine .thenRet ?_|refine .inExit ?_|refine .outExit rfl ?_|refine .inNormal ?_|refine .inRet ?_|refine .off rfl rfl ?_|refine .offU rfl rfl rfl ?_|(apply W.y rfl rfl;first|exact .move rfl|exact .assign rfl|exact .fieldC rfl|exact .loadW rfl (by (first|apply Ld.oneC|apply Ld.two|apply Ld.three|apply Ld.four|apply Ld.five);repeat(first|assumption|exact Row.cell (by assumption) (by first|rfl|assumption)))|exact .nilCheck rfl|exact .lenC rfl|exact .lenStrC rfl|exact .extract rfl rfl|exact .not rfl|exact .pickT rfl rfl|exact .pickF rfl rfl|exact .buildC rfl rfl|exact .indexC _ rfl rfl rfl (by omega)|exact .indexC 0 rfl rfl rfl (by omega)|exact .indexC 1 rfl rfl rfl (by omega)|exact .indexC 2 rfl rfl rfl (by omega)|exact .indexArrC _ rfl rfl rfl (by omega)|exact .indexArrC 0 rfl rfl rfl (by omega)|exact .indexArrC 1 rfl rfl rfl (by omega)|exact .indexArrC 2 rfl rfl rfl (by omega)|exact .add _ rfl rfl (wrap_i64 (by omega))|exact .sub _ rfl rfl (wrap_i64 (by omega))|exact .rem _ rfl rfl (by decide) (Int.tmod_eq_emod_of_nonneg (by omega))|exact .cmpT rfl rfl rfl (by dsimp only [cmpP];omega)|exact .cmpF rfl rfl rfl (by dsimp only [cmpP];omega)))
      refine W.st rfl rfl (St.callC rfl (clip_spec _ _ _ w2 (hend (by rw [← hrng]; simp [rng]) w2 (Keep.refl _ _)))) (fun v8 w8 h8 => ?_)
      obtain ⟨h8, rfl⟩ := h8
      (repeat first|refine .seq ?_|refine .region ?_|refine .block ?_|refine .skip ?_|refine .ret ?_|refine .exit ?_|refine .yes rfl ?_|refine .no rfl ?_|refine .nil ?_|refine .go ?_|refine .thenExit ?_|refine .thenRet ?_|refine .inExit ?_|refine .outExit rfl ?_|refine .inNormal ?_|refine .inRet ?_|refine .off rfl rfl ?_|refine .offU rfl rfl rfl ?_|(apply W.y rfl rfl;first|exact .move rfl|exact .assign rfl|exact .fieldC rfl|exact .loadW rfl (by (first|apply Ld.oneC|apply Ld.two|apply Ld.three|apply Ld.four|apply Ld.five);repeat(first|assumption|exact Row.cell (by assumption) (by first|rfl|assumption)))|exact .nilCheck rfl|exact .lenC rfl|exact .lenStrC rfl|exact .extract rfl rfl|exact .not rfl|exact .pickT rfl rfl|exact .pickF rfl rfl|exact .buildC rfl rfl|exact .indexC _ rfl rfl rfl (by omega)|exact .indexC 0 rfl rfl rfl (by omega)|exact .indexC 1 rfl rfl rfl (by omega)|exact .indexC 2 rfl rfl rfl (by omega)|exact .indexArrC _ rfl rfl rfl (by omega)|exact .indexArrC 0 rfl rfl rfl (by omega)|exact .indexArrC 1 rfl rfl rfl (by omega)|exact .indexArrC 2 rfl rfl rfl (by omega)|exact .add _ rfl rfl (wrap_i64 (by omega))|exact .sub _ rfl rfl (wrap_i64 (by omega))|exact .rem _ rfl rfl (by decide) (Int.tmod_eq_emod_of_nonneg (by omega))|exact .cmpT rfl rfl rfl (by dsimp only [cmpP];omega)|exact .cmpF rfl rfl rfl (by dsimp only [cmpP];omega)))
      exact E.ret1 rfl rfl ⟨h8, hk⟩
  · rw [List.drop_eq_nil_of_le (by omega), rng_nil] at hrng
    (repeat first|refine .seq ?_|refine .region ?_|refine .block ?_|refine .skip ?_|refine .ret ?_|refine .exit ?_|refine .yes rfl ?_|refine .no rfl ?_|refine .nil ?_|refine .go ?_|refine .thenExit ?_|refine .thenRet ?_|refine .inExit ?_|refine .outExit rfl ?_|refine .inNormal ?_|refine .inRet ?_|refine .off rfl rfl ?_|refine .offU rfl rfl rfl ?_|(apply W.y rfl rfl;first|exact .move rfl|exact .assign rfl|exact .fieldC rfl|exact .loadW rfl (by (first|apply Ld.oneC|apply Ld.two|apply Ld.three|apply Ld.four|apply Ld.five);repeat(first|assumption|exact Row.cell (by assumption) (by first|rfl|assumption)))|exact .nilCheck rfl|exact .lenC rfl|exact .lenStrC rfl|exact .extract rfl rfl|exact .not rfl|exact .pickT rfl rfl|exact .pickF rfl rfl|exact .buildC rfl rfl|exact .indexC _ rfl rfl rfl (by omega)|exact .indexC 0 rfl rfl rfl (by omega)|exact .indexC 1 rfl rfl rfl (by omega)|exact .indexC 2 rfl rfl rfl (by omega)|exact .indexArrC _ rfl rfl rfl (by omega)|exact .indexArrC 0 rfl rfl rfl (by omega)|exact .indexArrC 1 rfl rfl rfl (by omega)|exact .indexArrC 2 rfl rfl rfl (by omega)|exact .add _ rfl rfl (wrap_i64 (by omega))|exact .sub _ rfl rfl (wrap_i64 (by omega))|exact .rem _ rfl rfl (by decide) (Int.tmod_eq_emod_of_nonneg (by omega))|exact .cmpT rfl rfl rfl (by dsimp only [cmpP];omega)|exact .cmpF rfl rfl rfl (by dsimp only [cmpP];omega)))
    refine W.st rfl rfl (St.callC rfl (clip_spec _ _ _ w2 (hend (by rw [← hrng]; simp) w2 (Keep.refl _ _)))) (fun v8 w8 h8 => ?_)
    obtain ⟨h8, rfl⟩ := h8
    (repeat first|refine .seq ?_|refine .region ?_|refine .block ?_|refine .skip ?_|refine .ret ?_|refine .exit ?_|refine .yes rfl ?_|refine .no rfl ?_|refine .nil ?_|refine .go ?_|refine .thenExit ?_|refine .thenRet ?_|refine .inExit ?_|refine .outExit rfl ?_|refine .inNormal ?_|refine .inRet ?_|refine .off rfl rfl ?_|refine .offU rfl rfl rfl ?_|(apply W.y rfl rfl;first|exact .move rfl|exact .assign rfl|exact .fieldC rfl|exact .loadW rfl (by (first|apply Ld.oneC|apply Ld.two|apply Ld.three|apply Ld.four|apply Ld.five);repeat(first|assumption|exact Row.cell (by assumption) (by first|rfl|assumption)))|exact .nilCheck rfl|exact .lenC rfl|exact .lenStrC rfl|exact .extract rfl rfl|exact .not rfl|exact .pickT rfl rfl|exact .pickF rfl rfl|exact .buildC rfl rfl|exact .indexC _ rfl rfl rfl (by omega)|exact .indexC 0 rfl rfl rfl (by omega)|exact .indexC 1 rfl rfl rfl (by omega)|exact .indexC 2 rfl rfl rfl (by omega)|exact .indexArrC _ rfl rfl rfl (by omega)|exact .indexArrC 0 rfl rfl rfl (by omega)|exact .indexArrC 1 rfl rfl rfl (by omega)|exact .indexArrC 2 rfl rfl rfl (by omega)|exact .add _ rfl rfl (wrap_i64 (by omega))|exact .sub _ rfl rfl (wrap_i64 (by omega))|exact .rem _ rfl rfl (by decide) (Int.tmod_eq_emod_of_nonneg (by omega))|exact .cmpT rfl rfl rfl (by dsimp only [cmpP];omega)|exact .cmpF rfl rfl rfl (by dsimp only [cmpP];omega)))
    exact E.ret1 rfl rfl ⟨h8, hk⟩
end Go.Proofs.Ytmneommbdfapfaa
