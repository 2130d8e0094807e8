/- The law's awake. -/
import Derived.Test.YtmneommbdfapfaaTg
namespace Go.Proofs.Ytmneommbdfapfaa
open Vb Go.RowKit

theorem freeze_keep (w : World) (b o n : Nat) : Keep (fun k => k = b) w (w.freeze ⟨b, o, none⟩ n) ∧ ∀ off v, w.cell? ⟨b, off, none⟩ = some v → (w.freeze ⟨b, o, none⟩ n).cell? ⟨b, off, none⟩ = some v := by
  unfold World.freeze
  by_cases hn : n = 0
  · rw [if_pos hn]
    exact ⟨Keep.refl _ _, fun _ _ h => h⟩
  · rw [if_neg hn]
    refine ⟨⟨rfl, rfl, rfl, by simp, fun k hk hne => ?_⟩, fun off v h => ?_⟩
    · simp only [Array.getElem?_modify]
      rw [if_neg (fun e => hne e.symm)]
    · unfold World.cell? at h ⊢
      simp only [Array.getElem?_modify, if_true]
      cases hh : w.heap[b]? with
      | none => rw [hh] at h; simp at h
      | some ob =>
        rw [hh] at h
        cases ob <;> simp at h ⊢ <;> exact h
/-- []byte of a literal: the row is marked behind its end. -/
theorem St.convMark {P : Program} {n : Nat} {L : FL} {w : World} {ty : TypeId} {x : Operand} {t e : TypeId} {b o m c : Nat} (hs : P.underlying t = some (.slice e)) (he : P.underlying e = some (.int .u8)) (hx : ev L x = some (.slice (some ⟨b, o, none⟩) m c)) :
    St P n L w (.convert t t x) ty (fun r w' => r = .slice (some ⟨b, o, none⟩) m c ∧ Keep (fun k => k = b) w w' ∧ ∀ off v, w.cell? ⟨b, off, none⟩ = some v → w'.cell? ⟨b, off, none⟩ = some v) :=
  St.run fun a ha dst pos after guard => by
    cases hh : w.shape? b with
    | none =>
      refine ⟨_, w, ?_, rfl, Keep.refl _ _, fun _ _ h => h⟩
      simp [execOp, ha.eval hx, convert, run_underlying hs, run_underlying he, markStringish, hh]
    | some p =>
      obtain ⟨e', k⟩ := p
      refine ⟨_, w.freeze ⟨b, k, none⟩ 1, ?_, rfl, freeze_keep w b k 1⟩
      simp [execOp, ha.eval hx, convert, run_underlying hs, run_underlying he, markStringish, hh]
theorem Y.bytesStrW {P : Program} {n : Nat} {L : FL} {ty : TypeId} {w : World} {x : Operand} {s t e : TypeId} {A : Option Addr} {m c : Nat} {xs : Bs} {F : Nat → Prop} (hs : P.underlying s = some (.slice e)) (he : P.underlying e = some (.int .u8)) (ht : P.underlying t = some .string) (hx : ev L x = some (.slice A m c)) (hb : Bytes F w (.slice A m c) xs) :
    Y P n L (fun w' => w' = w) (.convert s t x) ty (str xs) := Y.bytesStr hs he ht hx (fun w' e => by subst e; exact ⟨F, hb⟩)
theorem Bytes.one {w : World} {b c : Nat} {x : UInt8} (h : w.cell? ⟨b, 0, none⟩ = some (.int .u8 x.toNat)) (hc : 1 ≤ c) : Bytes (fun k => k = b) w (.slice (some ⟨b, 0, none⟩) 1 c) [x] :=
  ⟨_, c, rfl, hc, fun e => by simp at e, by simp, fun i y hi => by
    have hi0 : i = 0 := by have := (List.getElem?_eq_some_iff.1 hi).1; simpa using this
    subst hi0
    simp only [List.getElem?_cons_zero, Option.some.injEq] at hi
    subst hi
    exact ⟨b, 0, [byteV x], rfl, rfl, rfl, fun j v hj => by
      have hj0 : j = 0 := by have := (List.getElem?_eq_some_iff.1 hj).1; simpa using this
      subst hj0
      simp only [List.getElem?_cons_zero, Option.some.injEq] at hj
      subst hj
      exact h, rfl⟩⟩
/-- A literal of one byte, as []byte of a string is told. -/
theorem lit1 {w1 w2 w3 : World} {b : Nat} {x : UInt8} (hN : New w1 w2 b 5 [.int .u8 x.toNat]) (hk : Keep (fun k => k = b) w2 w3) (hc : ∀ off v, w2.cell? ⟨b, off, none⟩ = some v → w3.cell? ⟨b, off, none⟩ = some v) :
    Bytes (Fresh w1 w3) w3 (.slice (some ⟨b, 0, none⟩) 1 1) [x] ∧ Keep Non w1 w3 := by
  have a := hN.at_
  have s := hN.size
  have s3 := hk.size
  exact ⟨(Bytes.one (hc 0 _ (hN.row.cell rfl)) (Nat.le_refl _)).mono (fun k e => ⟨by omega, by omega⟩), hN.keep.far hk (fun i e => by have e' : i = b := e; omega)⟩

set_option maxHeartbeats 6400000 in
theorem awake_spec (w : World) : Meets Try.prog 10 #[] w (fun r w' => r = .bool true ∧ Keep Non w w') := by
  refine Meets.enter Try.func10 Try.ntmps10 rfl rfl ?_
  (repeat first|refine .seq ?_|refine .region ?_|refine .block ?_|refine .skip ?_|refine .ret ?_|refine .exit ?_|refine .yes rfl ?_|refine .no rfl ?_|refine .nil ?_|refine .go ?_|refine .thenExit ?_|refine .thenRet ?_|refine .inExit ?_|refine .outExit rfl ?_|refine .inNormal ?_|refine .inRet ?_|refine .off rfl rfl ?_|refine .offU rfl rfl rfl ?_|(apply W.y rfl rfl;first|exact .move rfl|exact .assign rfl|exact .fieldC rfl|exact .loadW rfl (by (first|apply Ld.oneC|apply Ld.two|apply Ld.three|apply Ld.four|apply Ld.five);repeat(first|assumption|exact Row.cell (by assumption) (by first|rfl|assumption)))|exact .nilCheck rfl|exact .lenC rfl|exact .lenStrC rfl|exact .extract rfl rfl|exact .not rfl|exact .pickT rfl rfl|exact .pickF rfl rfl|exact .buildC rfl rfl|exact .indexC _ rfl rfl rfl (by omega)|exact .indexC 0 rfl rfl rfl (by omega)|exact .indexC 1 rfl rfl rfl (by omega)|exact .indexC 2 rfl rfl rfl (by omega)|exact .indexArrC _ rfl rfl rfl (by omega)|exact .indexArrC 0 rfl rfl rfl (by omega)|exact .indexArrC 1 rfl rfl rfl (by omega)|exact .indexArrC 2 rfl rfl rfl (by omega)|exact .add _ rfl rfl (wrap_i64 (by omega))|exact .sub _ rfl rfl (wrap_i64 (by omega))|exact .rem _ rfl rfl (by decide) (Int.tmod_eq_emod_of_nonneg (by omega))|exact .cmpT rfl rfl rfl (by dsimp only [cmpP];omega)|exact .cmpF rfl rfl rfl (by dsimp only [cmpP];omega)))
  refine W.st rfl rfl (St.callC rfl (new_spec w)) (fun v1 w1 h1 => ?_)
  obtain ⟨bt, rfl, hbt, hT1, k1⟩ := h1
  (repeat first|refine .seq ?_|refine .region ?_|refine .block ?_|refine .skip ?_|refine .ret ?_|refine .exit ?_|refine .yes rfl ?_|refine .no rfl ?_|refine .nil ?_|refine .go ?_|refine .thenExit ?_|refine .thenRet ?_|refine .inExit ?_|refine .outExit rfl ?_|refine .inNormal ?_|refine .inRet ?_|refine .off rfl rfl ?_|refine .offU rfl rfl rfl ?_|(apply W.y rfl rfl;first|exact .move rfl|exact .assign rfl|exact .fieldC rfl|exact .loadW rfl (by (first|apply Ld.oneC|apply Ld.two|apply Ld.three|apply Ld.four|apply Ld.five);repeat(first|assumption|exact Row.cell (by assumption) (by first|rfl|assumption)))|exact .nilCheck rfl|exact .lenC rfl|exact .lenStrC rfl|exact .extract rfl rfl|exact .not rfl|exact .pickT rfl rfl|exact .pickF rfl rfl|exact .buildC rfl rfl|exact .indexC _ rfl rfl rfl (by omega)|exact .indexC 0 rfl rfl rfl (by omega)|exact .indexC 1 rfl rfl rfl (by omega)|exact .indexC 2 rfl rfl rfl (by omega)|exact .indexArrC _ rfl rfl rfl (by omega)|exact .indexArrC 0 rfl rfl rfl (by omega)|exact .indexArrC 1 rfl rfl rfl (by omega)|exact .indexArrC 2 rfl rfl rfl (by omega)|exact .add _ rfl rfl (wrap_i64 (by omega))|exact .sub _ rfl rfl (wrap_i64 (by omega))|exact .rem _ rfl rfl (by decide) (Int.tmod_eq_emod_of_nonneg (by omega))|exact .cmpT rfl rfl rfl (by dsimp only [cmpP];omega)|exact .cmpF rfl rfl rfl (by dsimp only [cmpP];omega)))
  refine W.y rfl rfl (Y.eqlPtrNilC rfl rfl) ?_
  (repeat first|refine .seq ?_|refine .region ?_|refine .block ?_|refine .skip ?_|refine .ret ?_|refine .exit ?_|refine .yes rfl ?_|refine .no rfl ?_|refine .nil ?_|refine .go ?_|refine .thenExit ?_|refine .thenRet ?_|refine .inExit ?_|refine .outExit rfl ?_|refine .inNormal ?_|refine .inRet ?_|refine .off rfl rfl ?_|refine .offU rfl rfl rfl ?_|(apply W.y rfl rfl;first|exact .move rfl|exact .assign rfl|exact .fieldC rfl|exact .loadW rfl (by (first|apply Ld.oneC|apply Ld.two|apply Ld.three|apply Ld.four|apply Ld.five);repeat(first|assumption|exact Row.cell (by assumption) (by first|rfl|assumption)))|exact .nilCheck rfl|exact .lenC rfl|exact .lenStrC rfl|exact .extract rfl rfl|exact .not rfl|exact .pickT rfl rfl|exact .pickF rfl rfl|exact .buildC rfl rfl|exact .indexC _ rfl rfl rfl (by omega)|exact .indexC 0 rfl rfl rfl (by omega)|exact .indexC 1 rfl rfl rfl (by omega)|exact .indexC 2 rfl rfl rfl (by omega)|exact .indexArrC _ rfl rfl rfl (by omega)|exact .indexArrC 0 rfl rfl rfl (by omega)|exact .indexArrC 1 rfl rfl rfl (by omega)|exact .indexArrC 2 rfl rfl rfl (by omega)|exact .add _ rfl rfl (wrap_i64 (by omega))|exact .sub _ rfl rfl (wrap_i64 (by omega))|exact .rem _ rfl rfl (by decide) (Int.tmod_eq_emod_of_nonneg (by omega))|exact .cmpT rfl rfl rfl (by dsimp only [cmpP];omega)|exact .cmpF rfl rfl rfl (by dsimp only [cmpP];omega)))
  refine W.st rfl rfl (St.lit (vs := [.int .u8 98]) rfl rfl (by omega) (fun v hv => by simp only [List.mem_singleton] at hv; subst hv; rfl)) (fun v2 w2 h2 => ?_)
  obtain ⟨b2, rfl, hN2⟩ := h2
  refine W.st rfl rfl (St.convMark Try.underlying23 Try.underlying5 rfl) (fun v3 w3 h3 => ?_)
  obtain ⟨rfl, k3, c3⟩ := h3
  obtain ⟨hB3, k13⟩ := lit1 (x := 98) hN2 k3 c3
  refine W.st rfl rfl (St.lit (vs := [.int .u8 49]) rfl rfl (by omega) (fun v hv => by simp only [List.mem_singleton] at hv; subst hv; rfl)) (fun v4 w4 h4 => ?_)
  obtain ⟨b4, rfl, hN4⟩ := h4
  refine W.st rfl rfl (St.convMark Try.underlying23 Try.underlying5 rfl) (fun v5 w5 h5 => ?_)
  obtain ⟨rfl, k5, c5⟩ := h5
  obtain ⟨hB5, k35⟩ := lit1 (x := 49) hN4 k5 c5
  refine W.st rfl rfl (St.callC rfl (tput_spec _ (fun _ => True) bt .nil _ _ [98] [49] w5 ((hT1.up k13).up k35) ((hB3.keep k35 (fun k _ => non_not k)).mono (fun _ _ => trivial)) (hB5.mono (fun _ _ => trivial)) (by simp [Tr.count]))) (fun v6 w6 h6 => ?_)
  obtain ⟨rfl, hT6, k6⟩ := h6
  have k06 : Keep Non w w6 := ((k1.then k13).then k35).far k6 (fun i e => by have e' : i = bt := e; omega)
  rw [show decide (Tr.nil.count < (Tr.nil.put [98] [49]).count) = true from by decide]
  (repeat first|refine .seq ?_|refine .region ?_|refine .block ?_|refine .skip ?_|refine .ret ?_|refine .exit ?_|refine .yes rfl ?_|refine .no rfl ?_|refine .nil ?_|refine .go ?_|refine .thenExit ?_|refine .thenRet ?_|refine .inExit ?_|refine .outExit rfl ?_|refine .inNormal ?_|refine .inRet ?_|refine .off rfl rfl ?_|refine .offU rfl rfl rfl ?_|(apply W.y rfl rfl;first|exact .move rfl|exact .assign rfl|exact .fieldC rfl|exact .loadW rfl (by (first|apply Ld.oneC|apply Ld.two|apply Ld.three|apply Ld.four|apply Ld.five);repeat(first|assumption|exact Row.cell (by assumption) (by first|rfl|assumption)))|exact .nilCheck rfl|exact .lenC rfl|exact .lenStrC rfl|exact .extract rfl rfl|exact .not rfl|exact .pickT rfl rfl|exact .pickF rfl rfl|exact .buildC rfl rfl|exact .indexC _ rfl rfl rfl (by omega)|exact .indexC 0 rfl rfl rfl (by omega)|exact .indexC 1 rfl rfl rfl (by omega)|exact .indexC 2 rfl rfl rfl (by omega)|exact .indexArrC _ rfl rfl rfl (by omega)|exact .indexArrC 0 rfl rfl rfl (by omega)|exact .indexArrC 1 rfl rfl rfl (by omega)|exact .indexArrC 2 rfl rfl rfl (by omega)|exact .add _ rfl rfl (wrap_i64 (by omega))|exact .sub _ rfl rfl (wrap_i64 (by omega))|exact .rem _ rfl rfl (by decide) (Int.tmod_eq_emod_of_nonneg (by omega))|exact .cmpT rfl rfl rfl (by dsimp only [cmpP];omega)|exact .cmpF rfl rfl rfl (by dsimp only [cmpP];omega)))
  refine W.st rfl rfl (St.lit (vs := [.int .u8 97]) rfl rfl (by omega) (fun v hv => by simp only [List.mem_singleton] at hv; subst hv; rfl)) (fun v7 w7 h7 => ?_)
  obtain ⟨b7, rfl, hN7⟩ := h7
  refine W.st rfl rfl (St.convMark Try.underlying23 Try.underlying5 rfl) (fun v8 w8 h8 => ?_)
  obtain ⟨rfl, k8, c8⟩ := h8
  obtain ⟨hB8, k68⟩ := lit1 (x := 97) hN7 k8 c8
  refine W.st rfl rfl (St.lit (vs := [.int .u8 50]) rfl rfl (by omega) (fun v hv => by simp only [List.mem_singleton] at hv; subst hv; rfl)) (fun v9 w9 h9 => ?_)
  obtain ⟨b9, rfl, hN9⟩ := h9
  refine W.st rfl rfl (St.convMark Try.underlying23 Try.underlying5 rfl) (fun v10 w10 h10 => ?_)
  obtain ⟨rfl, k10, c10⟩ := h10
  obtain ⟨hB10, k810⟩ := lit1 (x := 50) hN9 k10 c10
  refine W.st rfl rfl (St.callC rfl (tput_spec _ (fun _ => True) bt _ _ _ [97] [50] w10 ((hT6.up k68).up k810) ((hB8.keep k810 (fun k _ => non_not k)).mono (fun _ _ => trivial)) (hB10.mono (fun _ _ => trivial)) (by decide))) (fun v11 w11 h11 => ?_)
  obtain ⟨rfl, hT11, k11⟩ := h11
  have k011 : Keep Non w w11 := ((k06.then k68).then k810).far k11 (fun i e => by have e' : i = bt := e; omega)
  rw [show decide ((Tr.nil.put [98] [49]).count < ((Tr.nil.put [98] [49]).put [97] [50]).count) = true from by decide]
  (repeat first|refine .seq ?_|refine .region ?_|refine .block ?_|refine .skip ?_|refine .ret ?_|refine .exit ?_|refine .yes rfl ?_|refine .no rfl ?_|refine .nil ?_|refine .go ?_|refine .thenExit ?_|refine .thenRet ?_|refine .inExit ?_|refine .outExit rfl ?_|refine .inNormal ?_|refine .inRet ?_|refine .off rfl rfl ?_|refine .offU rfl rfl rfl ?_|(apply W.y rfl rfl;first|exact .move rfl|exact .assign rfl|exact .fieldC rfl|exact .loadW rfl (by (first|apply Ld.oneC|apply Ld.two|apply Ld.three|apply Ld.four|apply Ld.five);repeat(first|assumption|exact Row.cell (by assumption) (by first|rfl|assumption)))|exact .nilCheck rfl|exact .lenC rfl|exact .lenStrC rfl|exact .extract rfl rfl|exact .not rfl|exact .pickT rfl rfl|exact .pickF rfl rfl|exact .buildC rfl rfl|exact .indexC _ rfl rfl rfl (by omega)|exact .indexC 0 rfl rfl rfl (by omega)|exact .indexC 1 rfl rfl rfl (by omega)|exact .indexC 2 rfl rfl rfl (by omega)|exact .indexArrC _ rfl rfl rfl (by omega)|exact .indexArrC 0 rfl rfl rfl (by omega)|exact .indexArrC 1 rfl rfl rfl (by omega)|exact .indexArrC 2 rfl rfl rfl (by omega)|exact .add _ rfl rfl (wrap_i64 (by omega))|exact .sub _ rfl rfl (wrap_i64 (by omega))|exact .rem _ rfl rfl (by decide) (Int.tmod_eq_emod_of_nonneg (by omega))|exact .cmpT rfl rfl rfl (by dsimp only [cmpP];omega)|exact .cmpF rfl rfl rfl (by dsimp only [cmpP];omega)))
  refine W.st rfl rfl (St.lit (vs := [.int .u8 98]) rfl rfl (by omega) (fun v hv => by simp only [List.mem_singleton] at hv; subst hv; rfl)) (fun v12 w12 h12 => ?_)
  obtain ⟨b12, rfl, hN12⟩ := h12
  refine W.st rfl rfl (St.convMark Try.underlying23 Try.underlying5 rfl) (fun v13 w13 h13 => ?_)
  obtain ⟨rfl, k13', c13⟩ := h13
  obtain ⟨hB13, k1113⟩ := lit1 (x := 98) hN12 k13' c13
  refine W.st rfl rfl (St.lit (vs := [.int .u8 51]) rfl rfl (by omega) (fun v hv => by simp only [List.mem_singleton] at hv; subst hv; rfl)) (fun v14 w14 h14 => ?_)
  obtain ⟨b14, rfl, hN14⟩ := h14
  refine W.st rfl rfl (St.convMark Try.underlying23 Try.underlying5 rfl) (fun v15 w15 h15 => ?_)
  obtain ⟨rfl, k15, c15⟩ := h15
  obtain ⟨hB15, k1315⟩ := lit1 (x := 51) hN14 k15 c15
  refine W.st rfl rfl (St.callC rfl (tput_spec _ (fun _ => True) bt _ _ _ [98] [51] w15 ((hT11.up k1113).up k1315) ((hB13.keep k1315 (fun k _ => non_not k)).mono (fun _ _ => trivial)) (hB15.mono (fun _ _ => trivial)) (by decide))) (fun v16 w16 h16 => ?_)
  obtain ⟨rfl, hT16, k16⟩ := h16
  have k016 : Keep Non w w16 := ((k011.then k1113).then k1315).far k16 (fun i e => by have e' : i = bt := e; omega)
  rw [show decide (((Tr.nil.put [98] [49]).put [97] [50]).count < (((Tr.nil.put [98] [49]).put [97] [50]).put [98] [51]).count) = false from by decide]
  have hlist : (((Tr.nil.put [98] [49]).put [97] [50]).put [98] [51]).toList = [([97], [50]), ([98], [51])] := by decide
  have hrank0 : (((Tr.nil.put [98] [49]).put [97] [50]).put [98] [51]).rank [] = 0 := by decide
  have hrank1 : (((Tr.nil.put [98] [49]).put [97] [50]).put [98] [51]).rank [98] = 1 := by decide
  have hdep : (((Tr.nil.put [98] [49]).put [97] [50]).put [98] [51]).depth = 2 := by decide
  have hcnt : (((Tr.nil.put [98] [49]).put [97] [50]).put [98] [51]).count = 2 := by decide
  generalize ((Tr.nil.put [98] [49]).put [97] [50]).put [98] [51] = t at *
  (repeat first|refine .seq ?_|refine .region ?_|refine .block ?_|refine .skip ?_|refine .ret ?_|refine .exit ?_|refine .yes rfl ?_|refine .no rfl ?_|refine .nil ?_|refine .go ?_|refine .thenExit ?_|refine .thenRet ?_|refine .inExit ?_|refine .outExit rfl ?_|refine .inNormal ?_|refine .inRet ?_|refine .off rfl rfl ?_|refine .offU rfl rfl rfl ?_|(apply W.y rfl rfl;first|exact .move rfl|exact .assign rfl|exact .fieldC rfl|exact .loadW rfl (by (first|apply Ld.oneC|apply Ld.two|apply Ld.three|apply Ld.four|apply Ld.five);repeat(first|assumption|exact Row.cell (by assumption) (by first|rfl|assumption)))|exact .nilCheck rfl|exact .lenC rfl|exact .lenStrC rfl|exact .extract rfl rfl|exact .not rfl|exact .pickT rfl rfl|exact .pickF rfl rfl|exact .buildC rfl rfl|exact .indexC _ rfl rfl rfl (by omega)|exact .indexC 0 rfl rfl rfl (by omega)|exact .indexC 1 rfl rfl rfl (by omega)|exact .indexC 2 rfl rfl rfl (by omega)|exact .indexArrC _ rfl rfl rfl (by omega)|exact .indexArrC 0 rfl rfl rfl (by omega)|exact .indexArrC 1 rfl rfl rfl (by omega)|exact .indexArrC 2 rfl rfl rfl (by omega)|exact .add _ rfl rfl (wrap_i64 (by omega))|exact .sub _ rfl rfl (wrap_i64 (by omega))|exact .rem _ rfl rfl (by decide) (Int.tmod_eq_emod_of_nonneg (by omega))|exact .cmpT rfl rfl rfl (by dsimp only [cmpP];omega)|exact .cmpF rfl rfl rfl (by dsimp only [cmpP];omega)))
  refine W.st rfl rfl (St.callC rfl (range_spec _ Non bt t _ _ [] [] 9 w16 hT16 Sl.nil Sl.nil (by omega))) (fun v17 w17 h17 => ?_)
  obtain ⟨h17, k17⟩ := h17
  rw [hrank0, hlist] at h17
  have e17 : rng [] (9 : Int).toNat (List.drop 0 [(([97] : Bs), ([50] : Bs)), ([98], [51])]) = [([97], [50]), ([98], [51])] := by decide
  rw [e17] at h17
  obtain ⟨A17, c17, rfl, hc17, hn17, hb17, he17⟩ := h17
  obtain ⟨bb, o, cs0, e0, hF0, hl0, hcs0, vk0, vx0, rfl, hk0, hx0⟩ := he17 0 _ rfl
  subst e0
  obtain ⟨bb1, o1, cs1, e1, hF1, hl1, hcs1, vk1, vx1, rfl, hk1, hx1⟩ := he17 1 _ rfl
  cases e1
  have q0 := hcs0 0 _ rfl
  have q1 := hcs1 1 _ rfl
  obtain ⟨Ak0, ck0, rfl, _⟩ := id hk0
  obtain ⟨Ax1, cx1, rfl, _⟩ := id hx1
  rw [show ([(([97] : Bs), ([50] : Bs)), ([98], [51])] : List Pr).length = 2 from rfl]
  (repeat first|refine .seq ?_|refine .region ?_|refine .block ?_|refine .skip ?_|refine .ret ?_|refine .exit ?_|refine .yes rfl ?_|refine .no rfl ?_|refine .nil ?_|refine .go ?_|refine .thenExit ?_|refine .thenRet ?_|refine .inExit ?_|refine .outExit rfl ?_|refine .inNormal ?_|refine .inRet ?_|refine .off rfl rfl ?_|refine .offU rfl rfl rfl ?_|(apply W.y rfl rfl;first|exact .move rfl|exact .assign rfl|exact .fieldC rfl|exact .loadW rfl (by (first|apply Ld.oneC|apply Ld.two|apply Ld.three|apply Ld.four|apply Ld.five);repeat(first|assumption|exact Row.cell (by assumption) (by first|rfl|assumption)))|exact .nilCheck rfl|exact .lenC rfl|exact .lenStrC rfl|exact .extract rfl rfl|exact .not rfl|exact .pickT rfl rfl|exact .pickF rfl rfl|exact .buildC rfl rfl|exact .indexC _ rfl rfl rfl (by omega)|exact .indexC 0 rfl rfl rfl (by omega)|exact .indexC 1 rfl rfl rfl (by omega)|exact .indexC 2 rfl rfl rfl (by omega)|exact .indexArrC _ rfl rfl rfl (by omega)|exact .indexArrC 0 rfl rfl rfl (by omega)|exact .indexArrC 1 rfl rfl rfl (by omega)|exact .indexArrC 2 rfl rfl rfl (by omega)|exact .add _ rfl rfl (wrap_i64 (by omega))|exact .sub _ rfl rfl (wrap_i64 (by omega))|exact .rem _ rfl rfl (by decide) (Int.tmod_eq_emod_of_nonneg (by omega))|exact .cmpT rfl rfl rfl (by dsimp only [cmpP];omega)|exact .cmpF rfl rfl rfl (by dsimp only [cmpP];omega)))
  refine W.y rfl rfl (Y.bytesStrW Try.underlying23 Try.underlying5 Try.underlying9 rfl hk0) ?_
  refine W.y rfl rfl (Y.eqlStr (b := [97]) rfl rfl) ?_
  rw [show ((([97] : Bs), ([50] : Bs)).1 == ([97] : Bs)) = true from by decide]
  (repeat first|refine .seq ?_|refine .region ?_|refine .block ?_|refine .skip ?_|refine .ret ?_|refine .exit ?_|refine .yes rfl ?_|refine .no rfl ?_|refine .nil ?_|refine .go ?_|refine .thenExit ?_|refine .thenRet ?_|refine .inExit ?_|refine .outExit rfl ?_|refine .inNormal ?_|refine .inRet ?_|refine .off rfl rfl ?_|refine .offU rfl rfl rfl ?_|(apply W.y rfl rfl;first|exact .move rfl|exact .assign rfl|exact .fieldC rfl|exact .loadW rfl (by (first|apply Ld.oneC|apply Ld.two|apply Ld.three|apply Ld.four|apply Ld.five);repeat(first|assumption|exact Row.cell (by assumption) (by first|rfl|assumption)))|exact .nilCheck rfl|exact .lenC rfl|exact .lenStrC rfl|exact .extract rfl rfl|exact .not rfl|exact .pickT rfl rfl|exact .pickF rfl rfl|exact .buildC rfl rfl|exact .indexC _ rfl rfl rfl (by omega)|exact .indexC 0 rfl rfl rfl (by omega)|exact .indexC 1 rfl rfl rfl (by omega)|exact .indexC 2 rfl rfl rfl (by omega)|exact .indexArrC _ rfl rfl rfl (by omega)|exact .indexArrC 0 rfl rfl rfl (by omega)|exact .indexArrC 1 rfl rfl rfl (by omega)|exact .indexArrC 2 rfl rfl rfl (by omega)|exact .add _ rfl rfl (wrap_i64 (by omega))|exact .sub _ rfl rfl (wrap_i64 (by omega))|exact .rem _ rfl rfl (by decide) (Int.tmod_eq_emod_of_nonneg (by omega))|exact .cmpT rfl rfl rfl (by dsimp only [cmpP];omega)|exact .cmpF rfl rfl rfl (by dsimp only [cmpP];omega)))
  refine W.y rfl rfl (Y.bytesStrW Try.underlying23 Try.underlying5 Try.underlying9 rfl hx1) ?_
  refine W.y rfl rfl (Y.eqlStr (b := [51]) rfl rfl) ?_
  rw [show ((([98] : Bs), ([51] : Bs)).2 == ([51] : Bs)) = true from by decide]
  (repeat first|refine .seq ?_|refine .region ?_|refine .block ?_|refine .skip ?_|refine .ret ?_|refine .exit ?_|refine .yes rfl ?_|refine .no rfl ?_|refine .nil ?_|refine .go ?_|refine .thenExit ?_|refine .thenRet ?_|refine .inExit ?_|refine .outExit rfl ?_|refine .inNormal ?_|refine .inRet ?_|refine .off rfl rfl ?_|refine .offU rfl rfl rfl ?_|(apply W.y rfl rfl;first|exact .move rfl|exact .assign rfl|exact .fieldC rfl|exact .loadW rfl (by (first|apply Ld.oneC|apply Ld.two|apply Ld.three|apply Ld.four|apply Ld.five);repeat(first|assumption|exact Row.cell (by assumption) (by first|rfl|assumption)))|exact .nilCheck rfl|exact .lenC rfl|exact .lenStrC rfl|exact .extract rfl rfl|exact .not rfl|exact .pickT rfl rfl|exact .pickF rfl rfl|exact .buildC rfl rfl|exact .indexC _ rfl rfl rfl (by omega)|exact .indexC 0 rfl rfl rfl (by omega)|exact .indexC 1 rfl rfl rfl (by omega)|exact .indexC 2 rfl rfl rfl (by omega)|exact .indexArrC _ rfl rfl rfl (by omega)|exact .indexArrC 0 rfl rfl rfl (by omega)|exact .indexArrC 1 rfl rfl rfl (by omega)|exact .indexArrC 2 rfl rfl rfl (by omega)|exact .add _ rfl rfl (wrap_i64 (by omega))|exact .sub _ rfl rfl (wrap_i64 (by omega))|exact .rem _ rfl rfl (by decide) (Int.tmod_eq_emod_of_nonneg (by omega))|exact .cmpT rfl rfl rfl (by dsimp only [cmpP];omega)|exact .cmpF rfl rfl rfl (by dsimp only [cmpP];omega)))
  refine W.st rfl rfl (St.lit (vs := [.int .u8 98]) rfl rfl (by omega) (fun v hv => by simp only [List.mem_singleton] at hv; subst hv; rfl)) (fun v18 w18 h18 => ?_)
  obtain ⟨b18, rfl, hN18⟩ := h18
  refine W.st rfl rfl (St.convMark Try.underlying23 Try.underlying5 rfl) (fun v19 w19 h19 => ?_)
  obtain ⟨rfl, k19, c19⟩ := h19
  obtain ⟨hB19, k1719⟩ := lit1 (x := 98) hN18 k19 c19
  have hT19 := (hT16.up k17).up k1719
  refine W.st rfl rfl (St.callC rfl (rank_spec _ _ bt t _ [98] w19 hT19 hB19 (by omega))) (fun v20 w20 h20 => ?_)
  obtain ⟨rfl, rfl⟩ := h20
  rw [hrank1]
  (repeat first|refine .seq ?_|refine .region ?_|refine .block ?_|refine .skip ?_|refine .ret ?_|refine .exit ?_|refine .yes rfl ?_|refine .no rfl ?_|refine .nil ?_|refine .go ?_|refine .thenExit ?_|refine .thenRet ?_|refine .inExit ?_|refine .outExit rfl ?_|refine .inNormal ?_|refine .inRet ?_|refine .off rfl rfl ?_|refine .offU rfl rfl rfl ?_|(apply W.y rfl rfl;first|exact .move rfl|exact .assign rfl|exact .fieldC rfl|exact .loadW rfl (by (first|apply Ld.oneC|apply Ld.two|apply Ld.three|apply Ld.four|apply Ld.five);repeat(first|assumption|exact Row.cell (by assumption) (by first|rfl|assumption)))|exact .nilCheck rfl|exact .lenC rfl|exact .lenStrC rfl|exact .extract rfl rfl|exact .not rfl|exact .pickT rfl rfl|exact .pickF rfl rfl|exact .buildC rfl rfl|exact .indexC _ rfl rfl rfl (by omega)|exact .indexC 0 rfl rfl rfl (by omega)|exact .indexC 1 rfl rfl rfl (by omega)|exact .indexC 2 rfl rfl rfl (by omega)|exact .indexArrC _ rfl rfl rfl (by omega)|exact .indexArrC 0 rfl rfl rfl (by omega)|exact .indexArrC 1 rfl rfl rfl (by omega)|exact .indexArrC 2 rfl rfl rfl (by omega)|exact .add _ rfl rfl (wrap_i64 (by omega))|exact .sub _ rfl rfl (wrap_i64 (by omega))|exact .rem _ rfl rfl (by decide) (Int.tmod_eq_emod_of_nonneg (by omega))|exact .cmpT rfl rfl rfl (by dsimp only [cmpP];omega)|exact .cmpF rfl rfl rfl (by dsimp only [cmpP];omega)))
  refine W.st rfl rfl (St.callC rfl (tdepth_spec _ bt t w20 hT19)) (fun v21 w21 h21 => ?_)
  obtain ⟨rfl, rfl⟩ := h21
  rw [hdep]
  (repeat first|refine .seq ?_|refine .region ?_|refine .block ?_|refine .skip ?_|refine .ret ?_|refine .exit ?_|refine .yes rfl ?_|refine .no rfl ?_|refine .nil ?_|refine .go ?_|refine .thenExit ?_|refine .thenRet ?_|refine .inExit ?_|refine .outExit rfl ?_|refine .inNormal ?_|refine .inRet ?_|refine .off rfl rfl ?_|refine .offU rfl rfl rfl ?_|(apply W.y rfl rfl;first|exact .move rfl|exact .assign rfl|exact .fieldC rfl|exact .loadW rfl (by (first|apply Ld.oneC|apply Ld.two|apply Ld.three|apply Ld.four|apply Ld.five);repeat(first|assumption|exact Row.cell (by assumption) (by first|rfl|assumption)))|exact .nilCheck rfl|exact .lenC rfl|exact .lenStrC rfl|exact .extract rfl rfl|exact .not rfl|exact .pickT rfl rfl|exact .pickF rfl rfl|exact .buildC rfl rfl|exact .indexC _ rfl rfl rfl (by omega)|exact .indexC 0 rfl rfl rfl (by omega)|exact .indexC 1 rfl rfl rfl (by omega)|exact .indexC 2 rfl rfl rfl (by omega)|exact .indexArrC _ rfl rfl rfl (by omega)|exact .indexArrC 0 rfl rfl rfl (by omega)|exact .indexArrC 1 rfl rfl rfl (by omega)|exact .indexArrC 2 rfl rfl rfl (by omega)|exact .add _ rfl rfl (wrap_i64 (by omega))|exact .sub _ rfl rfl (wrap_i64 (by omega))|exact .rem _ rfl rfl (by decide) (Int.tmod_eq_emod_of_nonneg (by omega))|exact .cmpT rfl rfl rfl (by dsimp only [cmpP];omega)|exact .cmpF rfl rfl rfl (by dsimp only [cmpP];omega)))
  exact E.ret1 rfl rfl ⟨rfl, (k016.then k17).then k1719⟩
end Go.Proofs.Ytmneommbdfapfaa
