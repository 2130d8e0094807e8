/- TreeFlat returns true: the plain law's rest; Bits; one step. -/
import Derived.Test.YtmneommbdfapfaaTo
namespace Go.Proofs.Ytmneommbdfapfaa
open Vb Go.RowKit

theorem delL_length {l : List Pr} (h : Sorted l) {k : Bs} (hk : (getL k l).isSome = true) : (delL k l).length + 1 = l.length := by
  induction l with
  | nil => simp [getL] at hk
  | cons p l ih =>
    obtain ⟨h1, h2⟩ := List.pairwise_cons.1 h
    by_cases e : p.1 = k
    · subst e
      have : delL p.1 (p :: l) = l := by
        unfold delL
        rw [List.filter_cons_of_neg (by simp)]
        exact delL_all (fun q hq => (ne_of_blt (h1 q hq)).symm)
      rw [this]; rfl
    · have e2 : (p.1 == k) = false := beq_eq_false_iff_ne.2 e
      have hk' : (getL k l).isSome = true := by
        unfold getL at hk ⊢
        rw [List.find?_cons, e2] at hk
        exact hk
      have := ih h2 hk'
      unfold delL at this ⊢
      rw [List.filter_cons_of_pos (by simp [e2]), List.length_cons, List.length_cons, this]
theorem Tr.remove_count_eq {t : Tr} (h : Sorted t.toList) {k : Bs} (hk : (t.find k).isSome = true) : (t.remove k).count + 1 = t.count := by
  rw [← Tr.toList_length, ← Tr.toList_length, Tr.remove_toList k h]
  rw [Tr.find_eq k h] at hk
  exact delL_length h hk
theorem remove_sorted {t : Tr} (h : Sorted t.toList) (k : Bs) : Sorted (t.remove k).toList := by
  rw [Tr.remove_toList k h]; exact delL_sorted k h
theorem bits_le : ∀ n : Nat, bits n ≤ n
  | 0 => by simp [bits]
  | n + 1 => by
    have ih := bits_le ((n + 1) / 2)
    rw [bits]
    omega
decreasing_by omega
theorem bits_pos {n : Nat} (h : 0 < n) : bits n = 1 + bits (n / 2) := by
  obtain ⟨m, rfl⟩ : ∃ m, n = m + 1 := ⟨n - 1, by omega⟩
  rw [bits]
theorem wrap_u64 (x : Int) : IntKind.u64.wrap x = x % 18446744073709551616 := by
  simp [IntKind.wrap, IntKind.signed, IntKind.bits]

theorem bits_spec (n : Nat) (w : World) (hn : n ≤ 1000000) :
    Meets Try.prog 19 #[.int .i64 n] w (fun r w' => r = .int .i64 (bits n : Int) ∧ w' = w) := by
  have hb := bits_le n
  refine Meets.enter Try.func19 Try.ntmps19 rfl rfl ?_
  (repeat first|refine .seq ?_|refine .region ?_|refine .block ?_|refine .skip ?_|refine .ret ?_|refine .exit ?_|refine .yes rfl ?_|refine .no rfl ?_|refine .nil ?_|refine .go ?_|refine .thenExit ?_|refine .thenRet ?_|refine .inExit ?_|refine .outExit rfl ?_|refine .inNormal ?_|refine .inRet ?_|refine .off rfl rfl ?_|refine .offU rfl rfl rfl ?_|(apply W.y rfl rfl;first|exact .move rfl|exact .assign rfl|exact .fieldC rfl|exact .loadW rfl (by (first|apply Ld.oneC|apply Ld.two|apply Ld.three|apply Ld.four|apply Ld.five);repeat(first|assumption|exact Row.cell (by assumption) (by first|rfl|assumption)))|exact .nilCheck rfl|exact .lenC rfl|exact .lenStrC rfl|exact .extract rfl rfl|exact .not rfl|exact .pickT rfl rfl|exact .pickF rfl rfl|exact .buildC rfl rfl|exact .indexC _ rfl rfl rfl (by omega)|exact .indexC 0 rfl rfl rfl (by omega)|exact .indexC 1 rfl rfl rfl (by omega)|exact .indexC 2 rfl rfl rfl (by omega)|exact .indexArrC _ rfl rfl rfl (by omega)|exact .indexArrC 0 rfl rfl rfl (by omega)|exact .indexArrC 1 rfl rfl rfl (by omega)|exact .indexArrC 2 rfl rfl rfl (by omega)|exact .add _ rfl rfl (wrap_i64 (by omega))|exact .sub _ rfl rfl (wrap_i64 (by omega))|exact .rem _ rfl rfl (by decide) (Int.tmod_eq_emod_of_nonneg (by omega))|exact .cmpT rfl rfl rfl (by unfold cmpP;omega)|exact .cmpF rfl rfl rfl (by unfold cmpP;omega)|fail)|fail)
  refine C.loop (fun m L w' => ∃ (a k : Nat), L = [(0, .int .i64 a), (3, .int .i64 k)] ∧ m = a ∧ a ≤ n ∧ k + bits a = bits n ∧ w' = w) n _ ⟨n, 0, rfl, rfl, by omega, by omega, rfl⟩ ⟨rfl, rfl, trivial⟩ ?_
  rintro m L w' ⟨a, k, rfl, rfl, ha, hk, rfl⟩
  by_cases h0 : 0 < m
  · have hp := bits_pos h0
    (repeat first|refine .seq ?_|refine .region ?_|refine .block ?_|refine .skip ?_|refine .ret ?_|refine .exit ?_|refine .yes rfl ?_|refine .no rfl ?_|refine .nil ?_|refine .go ?_|refine .thenExit ?_|refine .thenRet ?_|refine .inExit ?_|refine .outExit rfl ?_|refine .inNormal ?_|refine .inRet ?_|refine .off rfl rfl ?_|refine .offU rfl rfl rfl ?_|(apply W.y rfl rfl;first|exact .move rfl|exact .assign rfl|exact .fieldC rfl|exact .loadW rfl (by (first|apply Ld.oneC|apply Ld.two|apply Ld.three|apply Ld.four|apply Ld.five);repeat(first|assumption|exact Row.cell (by assumption) (by first|rfl|assumption)))|exact .nilCheck rfl|exact .lenC rfl|exact .lenStrC rfl|exact .extract rfl rfl|exact .not rfl|exact .pickT rfl rfl|exact .pickF rfl rfl|exact .buildC rfl rfl|exact .indexC _ rfl rfl rfl (by omega)|exact .indexC 0 rfl rfl rfl (by omega)|exact .indexC 1 rfl rfl rfl (by omega)|exact .indexC 2 rfl rfl rfl (by omega)|exact .indexArrC _ rfl rfl rfl (by omega)|exact .indexArrC 0 rfl rfl rfl (by omega)|exact .indexArrC 1 rfl rfl rfl (by omega)|exact .indexArrC 2 rfl rfl rfl (by omega)|exact .add _ rfl rfl (wrap_i64 (by omega))|exact .sub _ rfl rfl (wrap_i64 (by omega))|exact .rem _ rfl rfl (by decide) (Int.tmod_eq_emod_of_nonneg (by omega))|exact .cmpT rfl rfl rfl (by unfold cmpP;omega)|exact .cmpF rfl rfl rfl (by unfold cmpP;omega)|fail)|fail)
    refine W.y rfl rfl (Y.quo ((m / 2 : Nat) : Int) rfl rfl (by decide) (by rw [show ((m : Int)).tdiv 2 = ((m / 2 : Nat) : Int) from rfl, wrap_i64 (by omega)])) ?_
    (repeat first|refine .seq ?_|refine .region ?_|refine .block ?_|refine .skip ?_|refine .ret ?_|refine .exit ?_|refine .yes rfl ?_|refine .no rfl ?_|refine .nil ?_|refine .go ?_|refine .thenExit ?_|refine .thenRet ?_|refine .inExit ?_|refine .outExit rfl ?_|refine .inNormal ?_|refine .inRet ?_|refine .off rfl rfl ?_|refine .offU rfl rfl rfl ?_|(apply W.y rfl rfl;first|exact .move rfl|exact .assign rfl|exact .fieldC rfl|exact .loadW rfl (by (first|apply Ld.oneC|apply Ld.two|apply Ld.three|apply Ld.four|apply Ld.five);repeat(first|assumption|exact Row.cell (by assumption) (by first|rfl|assumption)))|exact .nilCheck rfl|exact .lenC rfl|exact .lenStrC rfl|exact .extract rfl rfl|exact .not rfl|exact .pickT rfl rfl|exact .pickF rfl rfl|exact .buildC rfl rfl|exact .indexC _ rfl rfl rfl (by omega)|exact .indexC 0 rfl rfl rfl (by omega)|exact .indexC 1 rfl rfl rfl (by omega)|exact .indexC 2 rfl rfl rfl (by omega)|exact .indexArrC _ rfl rfl rfl (by omega)|exact .indexArrC 0 rfl rfl rfl (by omega)|exact .indexArrC 1 rfl rfl rfl (by omega)|exact .indexArrC 2 rfl rfl rfl (by omega)|exact .add _ rfl rfl (wrap_i64 (by omega))|exact .sub _ rfl rfl (wrap_i64 (by omega))|exact .rem _ rfl rfl (by decide) (Int.tmod_eq_emod_of_nonneg (by omega))|exact .cmpT rfl rfl rfl (by unfold cmpP;omega)|exact .cmpF rfl rfl rfl (by unfold cmpP;omega)|fail)|fail)
    exact E.again _ _ (by omega) ⟨m / 2, k + 1, rfl, rfl, by omega, by omega, rfl⟩ ⟨rfl, some_int (by omega), trivial⟩
  · have e : m = 0 := by omega
    subst e
    (repeat first|refine .seq ?_|refine .region ?_|refine .block ?_|refine .skip ?_|refine .ret ?_|refine .exit ?_|refine .yes rfl ?_|refine .no rfl ?_|refine .nil ?_|refine .go ?_|refine .thenExit ?_|refine .thenRet ?_|refine .inExit ?_|refine .outExit rfl ?_|refine .inNormal ?_|refine .inRet ?_|refine .off rfl rfl ?_|refine .offU rfl rfl rfl ?_|(apply W.y rfl rfl;first|exact .move rfl|exact .assign rfl|exact .fieldC rfl|exact .loadW rfl (by (first|apply Ld.oneC|apply Ld.two|apply Ld.three|apply Ld.four|apply Ld.five);repeat(first|assumption|exact Row.cell (by assumption) (by first|rfl|assumption)))|exact .nilCheck rfl|exact .lenC rfl|exact .lenStrC rfl|exact .extract rfl rfl|exact .not rfl|exact .pickT rfl rfl|exact .pickF rfl rfl|exact .buildC rfl rfl|exact .indexC _ rfl rfl rfl (by omega)|exact .indexC 0 rfl rfl rfl (by omega)|exact .indexC 1 rfl rfl rfl (by omega)|exact .indexC 2 rfl rfl rfl (by omega)|exact .indexArrC _ rfl rfl rfl (by omega)|exact .indexArrC 0 rfl rfl rfl (by omega)|exact .indexArrC 1 rfl rfl rfl (by omega)|exact .indexArrC 2 rfl rfl rfl (by omega)|exact .add _ rfl rfl (wrap_i64 (by omega))|exact .sub _ rfl rfl (wrap_i64 (by omega))|exact .rem _ rfl rfl (by decide) (Int.tmod_eq_emod_of_nonneg (by omega))|exact .cmpT rfl rfl rfl (by unfold cmpP;omega)|exact .cmpF rfl rfl rfl (by unfold cmpP;omega)|fail)|fail)
    refine E.ret1 rfl rfl ⟨?_, rfl⟩
    have : bits 0 = 0 := by simp [bits]
    rw [← hk, this]; rfl

set_option maxHeartbeats 3200000 in
theorem flat_del (F G : Nat → Prop) (v0 v1 vk : Value) (x : Int) (xs : List Int) (i : Nat) (bt : Nat) (t : Tr) (w : World) (h0 : Ints F w v0 xs) (hx : xs[i]? = some x) (hT : TreeAt G w bt t) (hS : Sorted t.toList) (hB : t.Bal) (hc : t.count ≤ 300) (hi : i < 300) :
    C Try.prog 111 (pc [1,1,1,1,0,1,0,0,1,0,0,1,1,1,0,1,0] Try.f5) (Post 111 (fun e L' w' => e = .normal ∧ ∃ t' G', L' = [(0, v0), (1, v1), (5, .pointer (some ⟨bt, 0, none⟩)), (6, .int .i64 t'.count), (7, .int .i64 i)] ∧ TreeAt G' w' bt t' ∧ Sorted t'.toList ∧ t'.Bal ∧ t'.count ≤ t.count ∧ Keep (fun k => k = bt) w w')) [(0, v0), (1, v1), (5, .pointer (some ⟨bt, 0, none⟩)), (6, .int .i64 t.count), (7, .int .i64 i), (9, vk)] w := by
  obtain ⟨A, c, rfl, hcc, hn, hb, he⟩ := id h0
  obtain ⟨bb, o, cs1, rfl, hFb, hl1, hcs1, rfl⟩ := he i x hx
  have hil : i < xs.length := (List.getElem?_eq_some_iff.1 hx).1
  have q0 : w.cell? ⟨bb, o + i * 1, none⟩ = some _ := hcs1 0 _ rfl
  have hm : 0 ≤ (x % 18446744073709551616) % ((t.count : Int) + 1) ∧ (x % 18446744073709551616) % ((t.count : Int) + 1) < (t.count : Int) + 1 := ⟨Int.emod_nonneg _ (by omega), Int.emod_lt_of_pos _ (by omega)⟩
  have hx0 : 0 ≤ x % 18446744073709551616 := Int.emod_nonneg _ (by omega)
  obtain ⟨j, hj⟩ : ∃ j : Nat, (x % 18446744073709551616) % ((t.count : Int) + 1) = j := ⟨((x % 18446744073709551616) % ((t.count : Int) + 1)).toNat, by omega⟩
  refine C.cut (fun L w5 => ∃ b4 rk rx, L = [(0, .slice (some ⟨bb, o, none⟩) xs.length c), (1, v1), (5, .pointer (some ⟨bt, 0, none⟩)), (6, .int .i64 t.count), (7, .int .i64 i), (10, .pointer (some ⟨b4, 0, none⟩)), (11, .int .i64 (if 0 ≤ (j : Int) ∧ (j : Int) < t.count then 0 else 1))] ∧ Row w5 b4 32 [rk, rx] ∧ Bytes (fun _ => True) w5 rk (if 0 ≤ (j : Int) ∧ (j : Int) < t.count then (t.get (j : Int).toNat).1 else []) ∧ Keep Non w w5) ?_ ?_
  · refine C.draw 19 (fun wq => Keep Non w wq) [] mixed rfl (fun w1 kw1 ew1 => ?_)
    ((refine .take 0 rfl (by kernel_rfl) rfl rfl (.move rfl) ?_); (refine .take 1 rfl (by kernel_rfl) rfl rfl (.move rfl) ?_); (refine .take 2 rfl (by kernel_rfl) rfl rfl (.move rfl) ?_); (first|refine .take 3 rfl (by kernel_rfl) rfl rfl (.indexC _ rfl rfl rfl (by omega)) ?_|refine .take 3 rfl (by kernel_rfl) rfl rfl (.indexC 0 rfl rfl rfl (by omega)) ?_|refine .take 3 rfl (by kernel_rfl) rfl rfl (.indexC 1 rfl rfl rfl (by omega)) ?_|refine .take 3 rfl (by kernel_rfl) rfl rfl (.indexC 2 rfl rfl rfl (by omega)) ?_|refine .take 3 rfl (by kernel_rfl) rfl rfl (.indexArrC _ rfl rfl rfl (by omega)) ?_|refine .take 3 rfl (by kernel_rfl) rfl rfl (.indexArrC 0 rfl rfl rfl (by omega)) ?_|refine .take 3 rfl (by kernel_rfl) rfl rfl (.indexArrC 1 rfl rfl rfl (by omega)) ?_|refine .take 3 rfl (by kernel_rfl) rfl rfl (.indexArrC 2 rfl rfl rfl (by omega)) ?_); (refine .read 4 rfl (by kernel_rfl) rfl rfl (by assumption) (.load rfl (fun w hw => (by (first|apply Ld.oneC|apply Ld.two|apply Ld.three|apply Ld.four|apply Ld.five);repeat(apply Keep.cell hw;(first|assumption|exact Row.cell (by assumption) (by first|rfl|assumption));first|exact non_not _|assumption|(intro e;omega)|(simp;omega))))) ?_); (refine .take 5 rfl (by kernel_rfl) rfl rfl (Y.convC (x % 18446744073709551616) rfl (wrap_u64 _)) ?_); (refine .take 6 rfl (by kernel_rfl) rfl rfl (.move rfl) ?_))
    have hT1 := hT.up kw1
    have s1 := kw1.size
    refine .any [7, 16] (by kernel_rfl) (.cons rfl rfl rfl (St.callC rfl (len_spec G bt t w1 hT1)) (fun v2 w2 h2 => ⟨fun _ hS => by rw [h2.2]; exact hS, ?_⟩) (.cons rfl rfl rfl St.allocC (fun v2 w2 h2 => ⟨fun _ hS => hS.then (by obtain ⟨_, _, hN⟩ := h2; exact hN.keep), ?_⟩) .nil))
    · obtain ⟨rfl, rfl⟩ := h2
      
      ((refine .take 8 rfl (by kernel_rfl) rfl rfl (Y.add ((t.count : Int) + 1) rfl rfl (wrap_i64 (by omega))) ?_); (refine .take 9 rfl (by kernel_rfl) rfl rfl (Y.convC ((t.count : Int) + 1) rfl (by rw [wrap_u64]; omega)) ?_); (refine .take 10 rfl (by kernel_rfl) rfl rfl (Y.rem (j : Int) rfl rfl (by omega) (by rw [Int.tmod_eq_emod_of_nonneg hx0]; exact hj)) ?_); (refine .take 11 rfl (by kernel_rfl) rfl rfl (Y.convC (j : Int) rfl (wrap_i64 (by omega))) ?_))
      refine .any [12, 16] (by kernel_rfl) (.cons rfl rfl rfl (St.callC rfl (at_spec G bt t (j : Int) w2 hT1 (by omega))) (fun v3 w3 h3 => ⟨fun _ hS => hS.then (by obtain ⟨_, _, _, _, _, hN⟩ := h3; exact hN), ?_⟩) (.cons rfl rfl rfl St.allocC (fun v3 w3 h3 => ⟨fun _ hS => hS.then (by obtain ⟨_, _, hN⟩ := h3; exact hN.keep), ?_⟩) .nil))
      · 
        obtain ⟨rk, rx, rfl, hk3, hx3, k3⟩ := h3
        obtain ⟨Ak, ck, rfl, _⟩ := id hk3
        obtain ⟨Ax, cx, rfl, _⟩ := id hx3
        have s3 := k3.size
        ((refine .take 13 rfl (by kernel_rfl) rfl rfl (.move rfl) ?_); (refine .take 14 rfl (by kernel_rfl) rfl rfl (.extract rfl rfl) ?_); (refine .take 15 rfl (by kernel_rfl) rfl rfl (.extract rfl rfl) ?_))
        refine D.one 16 rfl (by kernel_rfl) rfl rfl St.allocC (fun v4 w4 h4 => ⟨fun _ hS => hS.then (by obtain ⟨_, _, hN⟩ := h4; exact hN.keep), ?_⟩)
        obtain ⟨b4, rfl, hN4⟩ := h4
        have hr4 := hN4.row
        have s4 := hN4.size
        have a4 := hN4.at_
        refine D.one0 17 rfl (by kernel_rfl) rfl (St.storeC rfl rfl rfl hr4 (by simp [Value.cells]) (one2 rfl rfl)) (fun v5 w5 h5 => ⟨fun _ hS => hS.put h5 (by omega), ?_⟩)
        have k5 := ((kw1.then k3).then hN4.keep).put h5 (by omega)
        have hk5 := hk3.keep (hN4.keep.put h5 (by omega)) (fun k _ => non_not k)
        ((refine .take 18 rfl (by kernel_rfl) rfl rfl (.assign rfl) ?_))
        have hr5 : Row w5 b4 32 [_, _] := h5.row
        refine D.fin (by kernel_rfl) ?_
        (repeat first|refine .seq ?_|refine .region ?_|refine .block ?_|refine .skip ?_|refine .ret ?_|refine .exit ?_|refine .yes rfl ?_|refine .no rfl ?_|refine .nil ?_|refine .go ?_|refine .thenExit ?_|refine .thenRet ?_|refine .inExit ?_|refine .outExit rfl ?_|refine .inNormal ?_|refine .inRet ?_|refine .off rfl rfl ?_|refine .offU rfl rfl rfl ?_|(apply W.y rfl rfl;first|exact .move rfl|exact .assign rfl|exact .fieldC rfl|exact .loadW rfl (by (first|apply Ld.oneC|apply Ld.two|apply Ld.three|apply Ld.four|apply Ld.five);repeat(first|assumption|exact Row.cell (by assumption) (by first|rfl|assumption)))|exact .nilCheck rfl|exact .lenC rfl|exact .lenStrC rfl|exact .extract rfl rfl|exact .not rfl|exact .pickT rfl rfl|exact .pickF rfl rfl|exact .buildC rfl rfl|exact .indexC _ rfl rfl rfl (by omega)|exact .indexC 0 rfl rfl rfl (by omega)|exact .indexC 1 rfl rfl rfl (by omega)|exact .indexC 2 rfl rfl rfl (by omega)|exact .indexArrC _ rfl rfl rfl (by omega)|exact .indexArrC 0 rfl rfl rfl (by omega)|exact .indexArrC 1 rfl rfl rfl (by omega)|exact .indexArrC 2 rfl rfl rfl (by omega)|exact .add _ rfl rfl (wrap_i64 (by omega))|exact .sub _ rfl rfl (wrap_i64 (by omega))|exact .rem _ rfl rfl (by decide) (Int.tmod_eq_emod_of_nonneg (by omega))|exact .cmpT rfl rfl rfl (by unfold cmpP;omega)|exact .cmpF rfl rfl rfl (by unfold cmpP;omega)|fail)|fail)
        exact E.meet _ ⟨b4, _, _, rfl, hr5, hk5.mono (fun _ _ => trivial), k5⟩ ⟨rfl, rfl, rfl, rfl, rfl, rfl, rfl, trivial⟩
      · 
        
        obtain ⟨b4, rfl, hN4⟩ := h3
        have hr4 := hN4.row
        have s4 := hN4.size
        have a4 := hN4.at_
        refine D.one 12 rfl (by kernel_rfl) rfl rfl (St.callC rfl (at_spec G bt t (j : Int) w3 (hT1.up hN4.keep) (by omega))) (fun v4 w4 h4 => ⟨fun _ hS => hS.then (by obtain ⟨_, _, _, _, _, hN⟩ := h4; exact hN), ?_⟩)
        obtain ⟨rk, rx, rfl, hk3, hx3, k3⟩ := h4
        obtain ⟨Ak, ck, rfl, _⟩ := id hk3
        obtain ⟨Ax, cx, rfl, _⟩ := id hx3
        have s3 := k3.size
        have hr4' := hr4.keep k3 (non_not _)
        ((refine .take 13 rfl (by kernel_rfl) rfl rfl (.move rfl) ?_); (refine .take 14 rfl (by kernel_rfl) rfl rfl (.extract rfl rfl) ?_); (refine .take 15 rfl (by kernel_rfl) rfl rfl (.extract rfl rfl) ?_))
        refine D.one0 17 rfl (by kernel_rfl) rfl (St.storeC rfl rfl rfl hr4' (by simp [Value.cells]) (one2 rfl rfl)) (fun v5 w5 h5 => ⟨fun _ hS => hS.put h5 (by omega), ?_⟩)
        have k5 := ((kw1.then hN4.keep).then k3).put h5 (by omega)
        have hk5 := hk3.keep h5.keep (fun k hk e => by have h9 := hk.1; have e' : k = b4 := e; omega)
        ((refine .take 18 rfl (by kernel_rfl) rfl rfl (.assign rfl) ?_))
        have hr5 : Row w5 b4 32 [_, _] := h5.row
        refine D.fin (by kernel_rfl) ?_
        (repeat first|refine .seq ?_|refine .region ?_|refine .block ?_|refine .skip ?_|refine .ret ?_|refine .exit ?_|refine .yes rfl ?_|refine .no rfl ?_|refine .nil ?_|refine .go ?_|refine .thenExit ?_|refine .thenRet ?_|refine .inExit ?_|refine .outExit rfl ?_|refine .inNormal ?_|refine .inRet ?_|refine .off rfl rfl ?_|refine .offU rfl rfl rfl ?_|(apply W.y rfl rfl;first|exact .move rfl|exact .assign rfl|exact .fieldC rfl|exact .loadW rfl (by (first|apply Ld.oneC|apply Ld.two|apply Ld.three|apply Ld.four|apply Ld.five);repeat(first|assumption|exact Row.cell (by assumption) (by first|rfl|assumption)))|exact .nilCheck rfl|exact .lenC rfl|exact .lenStrC rfl|exact .extract rfl rfl|exact .not rfl|exact .pickT rfl rfl|exact .pickF rfl rfl|exact .buildC rfl rfl|exact .indexC _ rfl rfl rfl (by omega)|exact .indexC 0 rfl rfl rfl (by omega)|exact .indexC 1 rfl rfl rfl (by omega)|exact .indexC 2 rfl rfl rfl (by omega)|exact .indexArrC _ rfl rfl rfl (by omega)|exact .indexArrC 0 rfl rfl rfl (by omega)|exact .indexArrC 1 rfl rfl rfl (by omega)|exact .indexArrC 2 rfl rfl rfl (by omega)|exact .add _ rfl rfl (wrap_i64 (by omega))|exact .sub _ rfl rfl (wrap_i64 (by omega))|exact .rem _ rfl rfl (by decide) (Int.tmod_eq_emod_of_nonneg (by omega))|exact .cmpT rfl rfl rfl (by unfold cmpP;omega)|exact .cmpF rfl rfl rfl (by unfold cmpP;omega)|fail)|fail)
        exact E.meet _ ⟨b4, _, _, rfl, hr5, hk5.mono (fun _ _ => trivial), k5⟩ ⟨rfl, rfl, rfl, rfl, rfl, rfl, rfl, trivial⟩
    · 
      
      obtain ⟨b4, rfl, hN4⟩ := h2
      have hr4 := hN4.row
      have s4 := hN4.size
      have a4 := hN4.at_
      have hT2 := hT1.up hN4.keep
      refine D.one 7 rfl (by kernel_rfl) rfl rfl (St.callC rfl (len_spec G bt t w2 hT2)) (fun v3 w3 h3 => ⟨fun _ hS => by rw [h3.2]; exact hS, ?_⟩)
      obtain ⟨rfl, rfl⟩ := h3
      ((refine .take 8 rfl (by kernel_rfl) rfl rfl (Y.add ((t.count : Int) + 1) rfl rfl (wrap_i64 (by omega))) ?_); (refine .take 9 rfl (by kernel_rfl) rfl rfl (Y.convC ((t.count : Int) + 1) rfl (by rw [wrap_u64]; omega)) ?_); (refine .take 10 rfl (by kernel_rfl) rfl rfl (Y.rem (j : Int) rfl rfl (by omega) (by rw [Int.tmod_eq_emod_of_nonneg hx0]; exact hj)) ?_); (refine .take 11 rfl (by kernel_rfl) rfl rfl (Y.convC (j : Int) rfl (wrap_i64 (by omega))) ?_))
      refine D.one 12 rfl (by kernel_rfl) rfl rfl (St.callC rfl (at_spec G bt t (j : Int) w3 hT2 (by omega))) (fun v4 w4 h4 => ⟨fun _ hS => hS.then (by obtain ⟨_, _, _, _, _, hN⟩ := h4; exact hN), ?_⟩)
      obtain ⟨rk, rx, rfl, hk3, hx3, k3⟩ := h4
      obtain ⟨Ak, ck, rfl, _⟩ := id hk3
      obtain ⟨Ax, cx, rfl, _⟩ := id hx3
      have s3 := k3.size
      have hr4' := hr4.keep k3 (non_not _)
      ((refine .take 13 rfl (by kernel_rfl) rfl rfl (.move rfl) ?_); (refine .take 14 rfl (by kernel_rfl) rfl rfl (.extract rfl rfl) ?_); (refine .take 15 rfl (by kernel_rfl) rfl rfl (.extract rfl rfl) ?_))
      refine D.one0 17 rfl (by kernel_rfl) rfl (St.storeC rfl rfl rfl hr4' (by simp [Value.cells]) (one2 rfl rfl)) (fun v5 w5 h5 => ⟨fun _ hS => hS.put h5 (by omega), ?_⟩)
      have k5 := ((kw1.then hN4.keep).then k3).put h5 (by omega)
      have hk5 := hk3.keep h5.keep (fun k hk e => by have h9 := hk.1; have e' : k = b4 := e; omega)
      ((refine .take 18 rfl (by kernel_rfl) rfl rfl (.assign rfl) ?_))
      have hr5 : Row w5 b4 32 [_, _] := h5.row
      refine D.fin (by kernel_rfl) ?_
      (repeat first|refine .seq ?_|refine .region ?_|refine .block ?_|refine .skip ?_|refine .ret ?_|refine .exit ?_|refine .yes rfl ?_|refine .no rfl ?_|refine .nil ?_|refine .go ?_|refine .thenExit ?_|refine .thenRet ?_|refine .inExit ?_|refine .outExit rfl ?_|refine .inNormal ?_|refine .inRet ?_|refine .off rfl rfl ?_|refine .offU rfl rfl rfl ?_|(apply W.y rfl rfl;first|exact .move rfl|exact .assign rfl|exact .fieldC rfl|exact .loadW rfl (by (first|apply Ld.oneC|apply Ld.two|apply Ld.three|apply Ld.four|apply Ld.five);repeat(first|assumption|exact Row.cell (by assumption) (by first|rfl|assumption)))|exact .nilCheck rfl|exact .lenC rfl|exact .lenStrC rfl|exact .extract rfl rfl|exact .not rfl|exact .pickT rfl rfl|exact .pickF rfl rfl|exact .buildC rfl rfl|exact .indexC _ rfl rfl rfl (by omega)|exact .indexC 0 rfl rfl rfl (by omega)|exact .indexC 1 rfl rfl rfl (by omega)|exact .indexC 2 rfl rfl rfl (by omega)|exact .indexArrC _ rfl rfl rfl (by omega)|exact .indexArrC 0 rfl rfl rfl (by omega)|exact .indexArrC 1 rfl rfl rfl (by omega)|exact .indexArrC 2 rfl rfl rfl (by omega)|exact .add _ rfl rfl (wrap_i64 (by omega))|exact .sub _ rfl rfl (wrap_i64 (by omega))|exact .rem _ rfl rfl (by decide) (Int.tmod_eq_emod_of_nonneg (by omega))|exact .cmpT rfl rfl rfl (by unfold cmpP;omega)|exact .cmpF rfl rfl rfl (by unfold cmpP;omega)|fail)|fail)
      exact E.meet _ ⟨b4, _, _, rfl, hr5, hk5.mono (fun _ _ => trivial), k5⟩ ⟨rfl, rfl, rfl, rfl, rfl, rfl, rfl, trivial⟩
  · rintro L w5 ⟨b4, rk, rx, rfl, hr5, hk5, k5⟩
    have hT5 := hT.up k5
    have k5b : Keep (fun k => k = bt) w w5 := k5.any
    by_cases hjt : j < t.count
    · have hcond : 0 ≤ (j : Int) ∧ (j : Int) < t.count := by omega
      have hf := Tr.find_get hS hjt
      simp only [hcond, and_self, if_true, Int.toNat_natCast] at hk5 ⊢
      generalize (t.get j).1 = key at *
      obtain ⟨Ak, ck, rfl, _⟩ := id hk5
      (repeat first|refine .seq ?_|refine .region ?_|refine .block ?_|refine .skip ?_|refine .ret ?_|refine .exit ?_|refine .yes rfl ?_|refine .no rfl ?_|refine .nil ?_|refine .go ?_|refine .thenExit ?_|refine .thenRet ?_|refine .inExit ?_|refine .outExit rfl ?_|refine .inNormal ?_|refine .inRet ?_|refine .off rfl rfl ?_|refine .offU rfl rfl rfl ?_|(apply W.y rfl rfl;first|exact .move rfl|exact .assign rfl|exact .fieldC rfl|exact .loadW rfl (by (first|apply Ld.oneC|apply Ld.two|apply Ld.three|apply Ld.four|apply Ld.five);repeat(first|assumption|exact Row.cell (by assumption) (by first|rfl|assumption)))|exact .nilCheck rfl|exact .lenC rfl|exact .lenStrC rfl|exact .extract rfl rfl|exact .not rfl|exact .pickT rfl rfl|exact .pickF rfl rfl|exact .buildC rfl rfl|exact .indexC _ rfl rfl rfl (by omega)|exact .indexC 0 rfl rfl rfl (by omega)|exact .indexC 1 rfl rfl rfl (by omega)|exact .indexC 2 rfl rfl rfl (by omega)|exact .indexArrC _ rfl rfl rfl (by omega)|exact .indexArrC 0 rfl rfl rfl (by omega)|exact .indexArrC 1 rfl rfl rfl (by omega)|exact .indexArrC 2 rfl rfl rfl (by omega)|exact .add _ rfl rfl (wrap_i64 (by omega))|exact .sub _ rfl rfl (wrap_i64 (by omega))|exact .rem _ rfl rfl (by decide) (Int.tmod_eq_emod_of_nonneg (by omega))|exact .cmpT rfl rfl rfl (by unfold cmpP;omega)|exact .cmpF rfl rfl rfl (by unfold cmpP;omega)|fail)|fail)
      refine W.st rfl rfl (St.callC rfl (tdelete_spec G _ bt t _ key w5 hT5 hk5 (by omega))) (fun v6 w6 h6 => ?_)
      obtain ⟨rfl, hT6, k6⟩ := h6
      have hfs : (t.find key).isSome = true := by rw [hf]; rfl
      have hce := Tr.remove_count_eq hS hfs
      rw [hfs] at hT6 ⊢
      simp only [if_true] at hT6
      (repeat first|refine .seq ?_|refine .region ?_|refine .block ?_|refine .skip ?_|refine .ret ?_|refine .exit ?_|refine .yes rfl ?_|refine .no rfl ?_|refine .nil ?_|refine .go ?_|refine .thenExit ?_|refine .thenRet ?_|refine .inExit ?_|refine .outExit rfl ?_|refine .inNormal ?_|refine .inRet ?_|refine .off rfl rfl ?_|refine .offU rfl rfl rfl ?_|(apply W.y rfl rfl;first|exact .move rfl|exact .assign rfl|exact .fieldC rfl|exact .loadW rfl (by (first|apply Ld.oneC|apply Ld.two|apply Ld.three|apply Ld.four|apply Ld.five);repeat(first|assumption|exact Row.cell (by assumption) (by first|rfl|assumption)))|exact .nilCheck rfl|exact .lenC rfl|exact .lenStrC rfl|exact .extract rfl rfl|exact .not rfl|exact .pickT rfl rfl|exact .pickF rfl rfl|exact .buildC rfl rfl|exact .indexC _ rfl rfl rfl (by omega)|exact .indexC 0 rfl rfl rfl (by omega)|exact .indexC 1 rfl rfl rfl (by omega)|exact .indexC 2 rfl rfl rfl (by omega)|exact .indexArrC _ rfl rfl rfl (by omega)|exact .indexArrC 0 rfl rfl rfl (by omega)|exact .indexArrC 1 rfl rfl rfl (by omega)|exact .indexArrC 2 rfl rfl rfl (by omega)|exact .add _ rfl rfl (wrap_i64 (by omega))|exact .sub _ rfl rfl (wrap_i64 (by omega))|exact .rem _ rfl rfl (by decide) (Int.tmod_eq_emod_of_nonneg (by omega))|exact .cmpT rfl rfl rfl (by unfold cmpP;omega)|exact .cmpF rfl rfl rfl (by unfold cmpP;omega)|fail)|fail)
      exact E.endN _ ⟨rfl, _, _, rfl, hT6, remove_sorted hS key, (Tr.remove_bal key t hB).1, by omega, k5b.then k6⟩ ⟨rfl, rfl, rfl, some_int (by omega), rfl, trivial⟩
    · have hcond : ¬ (0 ≤ (j : Int) ∧ (j : Int) < t.count) := by omega
      simp only [hcond, if_false] at hk5 ⊢
      (repeat first|refine .seq ?_|refine .region ?_|refine .block ?_|refine .skip ?_|refine .ret ?_|refine .exit ?_|refine .yes rfl ?_|refine .no rfl ?_|refine .nil ?_|refine .go ?_|refine .thenExit ?_|refine .thenRet ?_|refine .inExit ?_|refine .outExit rfl ?_|refine .inNormal ?_|refine .inRet ?_|refine .off rfl rfl ?_|refine .offU rfl rfl rfl ?_|(apply W.y rfl rfl;first|exact .move rfl|exact .assign rfl|exact .fieldC rfl|exact .loadW rfl (by (first|apply Ld.oneC|apply Ld.two|apply Ld.three|apply Ld.four|apply Ld.five);repeat(first|assumption|exact Row.cell (by assumption) (by first|rfl|assumption)))|exact .nilCheck rfl|exact .lenC rfl|exact .lenStrC rfl|exact .extract rfl rfl|exact .not rfl|exact .pickT rfl rfl|exact .pickF rfl rfl|exact .buildC rfl rfl|exact .indexC _ rfl rfl rfl (by omega)|exact .indexC 0 rfl rfl rfl (by omega)|exact .indexC 1 rfl rfl rfl (by omega)|exact .indexC 2 rfl rfl rfl (by omega)|exact .indexArrC _ rfl rfl rfl (by omega)|exact .indexArrC 0 rfl rfl rfl (by omega)|exact .indexArrC 1 rfl rfl rfl (by omega)|exact .indexArrC 2 rfl rfl rfl (by omega)|exact .add _ rfl rfl (wrap_i64 (by omega))|exact .sub _ rfl rfl (wrap_i64 (by omega))|exact .rem _ rfl rfl (by decide) (Int.tmod_eq_emod_of_nonneg (by omega))|exact .cmpT rfl rfl rfl (by unfold cmpP;omega)|exact .cmpF rfl rfl rfl (by unfold cmpP;omega)|fail)|fail)
      exact E.endN _ ⟨rfl, t, G, rfl, hT5, hS, hB, Nat.le_refl _, k5b⟩ ⟨rfl, rfl, rfl, rfl, rfl, trivial⟩
end Go.Proofs.Ytmneommbdfapfaa
