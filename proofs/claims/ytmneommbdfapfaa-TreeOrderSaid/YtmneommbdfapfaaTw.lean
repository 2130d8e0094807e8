/- TreeOrder returns true: its closure, its puts. -/
import Derived.Test.YtmneommbdfapfaaTv
import Derived.Test.YtmneommbdfapfaaTu
import Derived.Test.YtmneommbdfapfaaVi
namespace Go.Proofs.Ytmneommbdfapfaa
open Vb Go.RowKit

/-- What TreeOrder's variables say: the keys, the turn, the number. -/
structure OW (F : Nat → Prop) (w : World) (bk bu bn ba bb : Nat) (vk : Value) (keys : List Bs) (turn : Int) (n : Nat) : Prop where
  rk : Row w bk 22 [vk]
  ru : Row w bu 3 [.int .i64 turn]
  rn : Row w bn 3 [.int .i64 n]
  hk : Sl F 1 24 (RBs F) w vk keys
  fa : ∀ k, F k → k ≠ ba ∧ k ≠ bb
  ap : bk ≠ ba ∧ bk ≠ bb ∧ bu ≠ ba ∧ bu ≠ bb ∧ bn ≠ ba ∧ bn ≠ bb
  n80 : n = min keys.length 80
theorem OW.keep {F S : Nat → Prop} {w w' : World} {bk bu bn ba bb : Nat} {vk : Value} {keys : List Bs} {turn : Int} {n : Nat} (h : OW F w bk bu bn ba bb vk keys turn n) (k : Keep S w w') (hS : ∀ k, S k → k = ba ∨ k = bb) : OW F w' bk bu bn ba bb vk keys turn n := by
  have hn : ∀ j, j ≠ ba → j ≠ bb → ¬ S j := fun j h1 h2 h3 => (hS j h3).elim h1 h2
  exact ⟨h.rk.keep k (hn _ h.ap.1 h.ap.2.1), h.ru.keep k (hn _ h.ap.2.2.1 h.ap.2.2.2.1), h.rn.keep k (hn _ h.ap.2.2.2.2.1 h.ap.2.2.2.2.2), Sl.keep RBs.stable k (fun j hj => hn j (h.fa j hj).1 (h.fa j hj).2) h.hk, h.fa, h.ap, h.n80⟩
theorem OW.up {F : Nat → Prop} {w w' : World} {bk bu bn ba bb : Nat} {vk : Value} {keys : List Bs} {turn : Int} {n : Nat} (h : OW F w bk bu bn ba bb vk keys turn n) (k : Keep Non w w') : OW F w' bk bu bn ba bb vk keys turn n := h.keep k (fun _ h => h.elim)
/-- Two trees apart. -/
structure Two (Ga Gb : Nat → Prop) (w : World) (ba bb : Nat) (ta tb : Tr) : Prop where
  a : TreeAt Ga w ba ta
  b : TreeAt Gb w bb tb
  na : ¬ Ga bb
  nb : ¬ Gb ba
  ne : ba ≠ bb
theorem Two.up {Ga Gb : Nat → Prop} {w w' : World} {ba bb : Nat} {ta tb : Tr} (h : Two Ga Gb w ba bb ta tb) (k : Keep Non w w') : Two Ga Gb w' ba bb ta tb := ⟨h.a.up k, h.b.up k, h.na, h.nb, h.ne⟩
theorem Two.putA {Ga Gb : Nat → Prop} {w w' : World} {ba bb : Nat} {ta tb t' : Tr} (h : Two Ga Gb w ba bb ta tb) (hT : TreeAt (fun k => Ga k ∨ Fresh w w' k) w' ba t') (k : Keep (fun k => k = ba) w w') : Two (fun k => Ga k ∨ Fresh w w' k) Gb w' ba bb t' tb :=
  ⟨hT, h.b.keep k (fun j hj e => h.nb (by have e' : j = ba := e; exact e' ▸ hj)) (fun e => h.ne (by have e' : bb = ba := e; exact e'.symm)), fun hh => hh.elim h.na (fun hf => by have := hf.1; have := h.b.lt; omega), h.nb, h.ne⟩
theorem Two.putB {Ga Gb : Nat → Prop} {w w' : World} {ba bb : Nat} {ta tb t' : Tr} (h : Two Ga Gb w ba bb ta tb) (hT : TreeAt (fun k => Gb k ∨ Fresh w w' k) w' bb t') (k : Keep (fun k => k = bb) w w') : Two Ga (fun k => Gb k ∨ Fresh w w' k) w' ba bb ta t' :=
  ⟨h.a.keep k (fun j hj e => h.na (by have e' : j = bb := e; exact e' ▸ hj)) (fun e => h.ne (by have e' : ba = bb := e; exact e')), hT, h.na, fun hh => hh.elim h.nb (fun hf => by have := hf.1; have := h.a.lt; omega), h.ne⟩
theorem TreeAt.later {G : Nat → Prop} {w w3 w' : World} {bt : Nat} {t : Tr} (h : TreeAt (fun k => G k ∨ Fresh w3 w' k) w' bt t) (hs : w.heap.size ≤ w3.heap.size) (hb : bt < w.heap.size) : TreeAt (fun k => G k ∨ Fresh w w' k) w' bt t := by
  obtain ⟨⟨vr, h1, h2⟩, h3, h4⟩ := h
  refine ⟨⟨vr, h1, h2.mono (fun k hk => hk.imp id (Fresh.later hs k))⟩, fun k hk => ?_, fun hh => ?_⟩
  · rcases hk with hk | hk
    · exact h3 k (.inl hk)
    · exact hk.2
  · rcases hh with hh | hh
    · exact h4 (.inl hh)
    · have := hh.1; omega
theorem cutk_bytes {F : Nat → Prop} {w : World} {A : Option Addr} {m c : Nat} {x : Bs} (h : Bytes F w (.slice A m c) x) : Bytes F w (.slice A (min x.length 50) c) (cutk x) := bytes_cut h (by omega)
theorem cutk_len (x : Bs) : (cutk x).length ≤ 50 := by unfold cutk; simp; omega

set_option maxHeartbeats 1600000 in
theorem clos_spec (F : Nat → Prop) (w : World) (bk bu bn ba bb : Nat) (vk : Value) (keys : List Bs) (turn : Int) (n i u : Nat) (h : OW F w bk bu bn ba bb vk keys turn n) (hi : i < n) (hu : turn % 18446744073709551616 % 80 = u) :
    Meets Try.prog 21 #[.int .i64 i, .pointer (some ⟨bk, 0, none⟩), .pointer (some ⟨bu, 0, none⟩), .pointer (some ⟨bn, 0, none⟩)] w (fun r w' => Bytes F w' r (kf keys ((i + u) % n)) ∧ Keep Non w w') := by
  have hn80 := h.n80
  have hm : (i + u) % n < n := Nat.mod_lt _ (by omega)
  obtain ⟨x, hx⟩ : ∃ x, keys[(i + u) % n]? = some x := ⟨_, List.getElem?_eq_getElem (by omega)⟩
  have hrk := h.rk
  obtain ⟨Ak, ck, rfl, hck, hnk, hbk, hek⟩ := h.hk
  obtain ⟨b0, o0, cs, rfl, hF, hl, hcs, vx, rfl, hbx⟩ := hek _ x hx
  have q0 : w.cell? ⟨b0, o0 + (i + u) % n * 1, none⟩ = some _ := hcs 0 _ rfl
  have qk := hrk.cell (j := 0) rfl
  have qu := h.ru.cell (j := 0) rfl
  have qn := h.rn.cell (j := 0) rfl
  rw [kf_of hx]
  obtain ⟨Ax, cx, rfl, hcx, _⟩ := id hbx
  have hil : (i + u) % n < keys.length := by omega
  refine Meets.enter Try.func21 Try.ntmps21 rfl rfl ?_
  (repeat first|refine .seq ?_|refine .region ?_|refine .block ?_|refine .skip ?_|refine .ret ?_|refine .exit ?_|refine .yes rfl ?_|refine .no rfl ?_|refine .nil ?_|refine .go ?_|refine .thenExit ?_|refine .thenRet ?_|refine .inExit ?_|refine .outExit rfl ?_|refine .inNormal ?_|refine .inRet ?_|refine .off rfl rfl ?_|refine .offU rfl rfl rfl ?_|(apply W.y rfl rfl;first|exact .move rfl|exact .assign rfl|exact .fieldC rfl|exact .loadW rfl (by (first|apply Ld.oneC|apply Ld.two|apply Ld.three|apply Ld.four|apply Ld.five);repeat(first|assumption|exact Row.cell (by assumption) (by first|rfl|assumption)))|exact .nilCheck rfl|exact .lenC rfl|exact .lenStrC rfl|exact .extract rfl rfl|exact .not rfl|exact .pickT rfl rfl|exact .pickF rfl rfl|exact .buildC rfl rfl|exact .indexC _ rfl rfl rfl (by omega)|exact .indexC 0 rfl rfl rfl (by omega)|exact .indexC 1 rfl rfl rfl (by omega)|exact .indexC 2 rfl rfl rfl (by omega)|exact .indexArrC _ rfl rfl rfl (by omega)|exact .indexArrC 0 rfl rfl rfl (by omega)|exact .indexArrC 1 rfl rfl rfl (by omega)|exact .indexArrC 2 rfl rfl rfl (by omega)|exact .add _ rfl rfl (wrap_i64 (by omega))|exact .sub _ rfl rfl (wrap_i64 (by omega))|exact .rem _ rfl rfl (by decide) (Int.tmod_eq_emod_of_nonneg (by omega))|exact .cmpT rfl rfl rfl (by unfold cmpP;omega)|exact .cmpF rfl rfl rfl (by unfold cmpP;omega)|fail)|fail)
  refine C.draw 12 (fun wq => Keep Non w wq) [] mixed rfl (fun w1 kw1 ew1 => ?_)
  ((refine .read 0 rfl (by kernel_rfl) rfl rfl (by assumption) (.load rfl (fun w hw => (by (first|apply Ld.oneC|apply Ld.two|apply Ld.three|apply Ld.four|apply Ld.five);repeat(apply Keep.cell hw;(first|assumption|exact Row.cell (by assumption) (by first|rfl|assumption));first|exact non_not _|assumption|(intro e;omega)|(simp;omega))))) ?_); (refine .take 1 rfl (by kernel_rfl) rfl rfl (.move rfl) ?_); (refine .read 2 rfl (by kernel_rfl) rfl rfl (by assumption) (.load rfl (fun w hw => (by (first|apply Ld.oneC|apply Ld.two|apply Ld.three|apply Ld.four|apply Ld.five);repeat(apply Keep.cell hw;(first|assumption|exact Row.cell (by assumption) (by first|rfl|assumption));first|exact non_not _|assumption|(intro e;omega)|(simp;omega))))) ?_); (refine .take 3 rfl (by kernel_rfl) rfl rfl (Y.convC (turn % 18446744073709551616) rfl (wrap_u64 _)) ?_); (refine .take 4 rfl (by kernel_rfl) rfl rfl (Y.rem (u : Int) rfl rfl (by decide) (by rw [Int.tmod_eq_emod_of_nonneg (Int.emod_nonneg _ (by decide))]; exact hu)) ?_); (refine .take 5 rfl (by kernel_rfl) rfl rfl (Y.convC (u : Int) rfl (wrap_i64 (by omega))) ?_); (refine .take 6 rfl (by kernel_rfl) rfl rfl (.add _ rfl rfl (wrap_i64 (by omega))) ?_); (refine .read 7 rfl (by kernel_rfl) rfl rfl (by assumption) (.load rfl (fun w hw => (by (first|apply Ld.oneC|apply Ld.two|apply Ld.three|apply Ld.four|apply Ld.five);repeat(apply Keep.cell hw;(first|assumption|exact Row.cell (by assumption) (by first|rfl|assumption));first|exact non_not _|assumption|(intro e;omega)|(simp;omega))))) ?_); (refine .take 8 rfl (by kernel_rfl) rfl rfl (Y.rem (((i + u) % n : Nat) : Int) rfl rfl (by omega) rfl) ?_); (first|refine .take 9 rfl (by kernel_rfl) rfl rfl (.indexC _ rfl rfl rfl (by omega)) ?_|refine .take 9 rfl (by kernel_rfl) rfl rfl (.indexC 0 rfl rfl rfl (by omega)) ?_|refine .take 9 rfl (by kernel_rfl) rfl rfl (.indexC 1 rfl rfl rfl (by omega)) ?_|refine .take 9 rfl (by kernel_rfl) rfl rfl (.indexC 2 rfl rfl rfl (by omega)) ?_|refine .take 9 rfl (by kernel_rfl) rfl rfl (.indexArrC _ rfl rfl rfl (by omega)) ?_|refine .take 9 rfl (by kernel_rfl) rfl rfl (.indexArrC 0 rfl rfl rfl (by omega)) ?_|refine .take 9 rfl (by kernel_rfl) rfl rfl (.indexArrC 1 rfl rfl rfl (by omega)) ?_|refine .take 9 rfl (by kernel_rfl) rfl rfl (.indexArrC 2 rfl rfl rfl (by omega)) ?_); (refine .read 10 rfl (by kernel_rfl) rfl rfl (by assumption) (.load rfl (fun w hw => (by (first|apply Ld.oneC|apply Ld.two|apply Ld.three|apply Ld.four|apply Ld.five);repeat(apply Keep.cell hw;(first|assumption|exact Row.cell (by assumption) (by first|rfl|assumption));first|exact non_not _|assumption|(intro e;omega)|(simp;omega))))) ?_); (refine .take 11 rfl (by kernel_rfl) rfl rfl (.assign rfl) ?_))
  refine D.fin (by kernel_rfl) ?_
  (repeat first|refine .seq ?_|refine .region ?_|refine .block ?_|refine .skip ?_|refine .ret ?_|refine .exit ?_|refine .yes rfl ?_|refine .no rfl ?_|refine .nil ?_|refine .go ?_|refine .thenExit ?_|refine .thenRet ?_|refine .inExit ?_|refine .outExit rfl ?_|refine .inNormal ?_|refine .inRet ?_|refine .off rfl rfl ?_|refine .offU rfl rfl rfl ?_|(apply W.y rfl rfl;first|exact .move rfl|exact .assign rfl|exact .fieldC rfl|exact .loadW rfl (by (first|apply Ld.oneC|apply Ld.two|apply Ld.three|apply Ld.four|apply Ld.five);repeat(first|assumption|exact Row.cell (by assumption) (by first|rfl|assumption)))|exact .nilCheck rfl|exact .lenC rfl|exact .lenStrC rfl|exact .extract rfl rfl|exact .not rfl|exact .pickT rfl rfl|exact .pickF rfl rfl|exact .buildC rfl rfl|exact .indexC _ rfl rfl rfl (by omega)|exact .indexC 0 rfl rfl rfl (by omega)|exact .indexC 1 rfl rfl rfl (by omega)|exact .indexC 2 rfl rfl rfl (by omega)|exact .indexArrC _ rfl rfl rfl (by omega)|exact .indexArrC 0 rfl rfl rfl (by omega)|exact .indexArrC 1 rfl rfl rfl (by omega)|exact .indexArrC 2 rfl rfl rfl (by omega)|exact .add _ rfl rfl (wrap_i64 (by omega))|exact .sub _ rfl rfl (wrap_i64 (by omega))|exact .rem _ rfl rfl (by decide) (Int.tmod_eq_emod_of_nonneg (by omega))|exact .cmpT rfl rfl rfl (by unfold cmpP;omega)|exact .cmpF rfl rfl rfl (by unfold cmpP;omega)|fail)|fail)
  refine W.y rfl rfl (Y.min ((min x.length 50 : Nat) : Int) rfl rfl (by split <;> omega)) ?_
  refine W.y rfl rfl (Y.cutHi (min x.length 50) rfl rfl rfl (by omega)) ?_
  (repeat first|refine .seq ?_|refine .region ?_|refine .block ?_|refine .skip ?_|refine .ret ?_|refine .exit ?_|refine .yes rfl ?_|refine .no rfl ?_|refine .nil ?_|refine .go ?_|refine .thenExit ?_|refine .thenRet ?_|refine .inExit ?_|refine .outExit rfl ?_|refine .inNormal ?_|refine .inRet ?_|refine .off rfl rfl ?_|refine .offU rfl rfl rfl ?_|(apply W.y rfl rfl;first|exact .move rfl|exact .assign rfl|exact .fieldC rfl|exact .loadW rfl (by (first|apply Ld.oneC|apply Ld.two|apply Ld.three|apply Ld.four|apply Ld.five);repeat(first|assumption|exact Row.cell (by assumption) (by first|rfl|assumption)))|exact .nilCheck rfl|exact .lenC rfl|exact .lenStrC rfl|exact .extract rfl rfl|exact .not rfl|exact .pickT rfl rfl|exact .pickF rfl rfl|exact .buildC rfl rfl|exact .indexC _ rfl rfl rfl (by omega)|exact .indexC 0 rfl rfl rfl (by omega)|exact .indexC 1 rfl rfl rfl (by omega)|exact .indexC 2 rfl rfl rfl (by omega)|exact .indexArrC _ rfl rfl rfl (by omega)|exact .indexArrC 0 rfl rfl rfl (by omega)|exact .indexArrC 1 rfl rfl rfl (by omega)|exact .indexArrC 2 rfl rfl rfl (by omega)|exact .add _ rfl rfl (wrap_i64 (by omega))|exact .sub _ rfl rfl (wrap_i64 (by omega))|exact .rem _ rfl rfl (by decide) (Int.tmod_eq_emod_of_nonneg (by omega))|exact .cmpT rfl rfl rfl (by unfold cmpP;omega)|exact .cmpF rfl rfl rfl (by unfold cmpP;omega)|fail)|fail)
  exact E.ret1 rfl rfl ⟨cutk_bytes (hbx.keep kw1 (fun k _ => non_not k)), kw1⟩

set_option maxHeartbeats 1600000 in
theorem order_ff (v2 v3 v5 v7 v8 v9 vk : Value) (key : Bs) (Gb H : Nat → Prop) (bb : Nat) (tb : Tr) (w : World) (hk : Bytes H w vk key) (hT : TreeAt Gb w bb tb) (hc : tb.count ≤ 1000) (hl : key.length ≤ 50) :
    C Try.prog 150 (pc [1,1,1,1,1,0,1,0,0,1,0,0,1,1,0] Try.f7) (Post 150 (fun e L' w' => e = .normal ∧ L' = [(2, v2), (3, v3), (5, v5), (6, .pointer (some ⟨bb, 0, none⟩)), (7, v7), (8, v8), (9, v9), (10, vk)] ∧ TreeAt (fun k => Gb k ∨ Fresh w w' k) w' bb (tb.put (ff ++ key) []) ∧ Keep (fun k => k = bb) w w')) [(2, v2), (3, v3), (5, v5), (6, .pointer (some ⟨bb, 0, none⟩)), (7, v7), (8, v8), (9, v9), (10, vk)] w := by
  have hbb := hT.lt
  have hk' := hk
  obtain ⟨A, c, rfl, hc1, hn1, hb1, he1⟩ := hk
  (repeat first|refine .seq ?_|refine .region ?_|refine .block ?_|refine .skip ?_|refine .ret ?_|refine .exit ?_|refine .yes rfl ?_|refine .no rfl ?_|refine .nil ?_|refine .go ?_|refine .thenExit ?_|refine .thenRet ?_|refine .inExit ?_|refine .outExit rfl ?_|refine .inNormal ?_|refine .inRet ?_|refine .off rfl rfl ?_|refine .offU rfl rfl rfl ?_|(apply W.y rfl rfl;first|exact .move rfl|exact .assign rfl|exact .fieldC rfl|exact .loadW rfl (by (first|apply Ld.oneC|apply Ld.two|apply Ld.three|apply Ld.four|apply Ld.five);repeat(first|assumption|exact Row.cell (by assumption) (by first|rfl|assumption)))|exact .nilCheck rfl|exact .lenC rfl|exact .lenStrC rfl|exact .extract rfl rfl|exact .not rfl|exact .pickT rfl rfl|exact .pickF rfl rfl|exact .buildC rfl rfl|exact .indexC _ rfl rfl rfl (by omega)|exact .indexC 0 rfl rfl rfl (by omega)|exact .indexC 1 rfl rfl rfl (by omega)|exact .indexC 2 rfl rfl rfl (by omega)|exact .indexArrC _ rfl rfl rfl (by omega)|exact .indexArrC 0 rfl rfl rfl (by omega)|exact .indexArrC 1 rfl rfl rfl (by omega)|exact .indexArrC 2 rfl rfl rfl (by omega)|exact .add _ rfl rfl (wrap_i64 (by omega))|exact .sub _ rfl rfl (wrap_i64 (by omega))|exact .rem _ rfl rfl (by decide) (Int.tmod_eq_emod_of_nonneg (by omega))|exact .cmpT rfl rfl rfl (by unfold cmpP;omega)|exact .cmpF rfl rfl rfl (by unfold cmpP;omega)|fail)|fail)
  refine W.st rfl rfl (St.lit (vs := [.int .u8 255, .int .u8 255, .int .u8 45]) rfl rfl (by omega) (fun v hv => by
    simp only [List.mem_cons, List.not_mem_nil, or_false] at hv
    rcases hv with rfl | rfl | rfl <;> rfl)) (fun v8 w8 h8 => ?_)
  obtain ⟨b8, rfl, hN8⟩ := h8
  refine W.st rfl rfl (St.convMark Try.underlying23 Try.underlying5 rfl) (fun v9 w9 h9 => ?_)
  obtain ⟨rfl, k9, c9⟩ := h9
  obtain ⟨hB9, k79⟩ := litB (xs := ff) hN8 k9 c9 (by decide)
  have hk9 := hk'.keep k79 (fun k _ => non_not k)
  (repeat first|refine .seq ?_|refine .region ?_|refine .block ?_|refine .skip ?_|refine .ret ?_|refine .exit ?_|refine .yes rfl ?_|refine .no rfl ?_|refine .nil ?_|refine .go ?_|refine .thenExit ?_|refine .thenRet ?_|refine .inExit ?_|refine .outExit rfl ?_|refine .inNormal ?_|refine .inRet ?_|refine .off rfl rfl ?_|refine .offU rfl rfl rfl ?_|(apply W.y rfl rfl;first|exact .move rfl|exact .assign rfl|exact .fieldC rfl|exact .loadW rfl (by (first|apply Ld.oneC|apply Ld.two|apply Ld.three|apply Ld.four|apply Ld.five);repeat(first|assumption|exact Row.cell (by assumption) (by first|rfl|assumption)))|exact .nilCheck rfl|exact .lenC rfl|exact .lenStrC rfl|exact .extract rfl rfl|exact .not rfl|exact .pickT rfl rfl|exact .pickF rfl rfl|exact .buildC rfl rfl|exact .indexC _ rfl rfl rfl (by omega)|exact .indexC 0 rfl rfl rfl (by omega)|exact .indexC 1 rfl rfl rfl (by omega)|exact .indexC 2 rfl rfl rfl (by omega)|exact .indexArrC _ rfl rfl rfl (by omega)|exact .indexArrC 0 rfl rfl rfl (by omega)|exact .indexArrC 1 rfl rfl rfl (by omega)|exact .indexArrC 2 rfl rfl rfl (by omega)|exact .add _ rfl rfl (wrap_i64 (by omega))|exact .sub _ rfl rfl (wrap_i64 (by omega))|exact .rem _ rfl rfl (by decide) (Int.tmod_eq_emod_of_nonneg (by omega))|exact .cmpT rfl rfl rfl (by unfold cmpP;omega)|exact .cmpF rfl rfl rfl (by unfold cmpP;omega)|fail)|fail)
  by_cases h0 : key.length = 0
  · have e0 : key = [] := List.eq_nil_of_length_eq_zero h0
    subst e0
    refine W.y rfl rfl (Y.appendNoneC rfl rfl (Nat.le_refl _)) ?_
    refine W.st rfl rfl (St.callC rfl (tput_spec Gb _ bb tb _ _ ff [] w9 (hT.up k79) hB9 Sl.nil (by omega))) (fun v10 w10 h10 => ?_)
    obtain ⟨rfl, hT10, k10⟩ := h10
    (repeat first|refine .seq ?_|refine .region ?_|refine .block ?_|refine .skip ?_|refine .ret ?_|refine .exit ?_|refine .yes rfl ?_|refine .no rfl ?_|refine .nil ?_|refine .go ?_|refine .thenExit ?_|refine .thenRet ?_|refine .inExit ?_|refine .outExit rfl ?_|refine .inNormal ?_|refine .inRet ?_|refine .off rfl rfl ?_|refine .offU rfl rfl rfl ?_|(apply W.y rfl rfl;first|exact .move rfl|exact .assign rfl|exact .fieldC rfl|exact .loadW rfl (by (first|apply Ld.oneC|apply Ld.two|apply Ld.three|apply Ld.four|apply Ld.five);repeat(first|assumption|exact Row.cell (by assumption) (by first|rfl|assumption)))|exact .nilCheck rfl|exact .lenC rfl|exact .lenStrC rfl|exact .extract rfl rfl|exact .not rfl|exact .pickT rfl rfl|exact .pickF rfl rfl|exact .buildC rfl rfl|exact .indexC _ rfl rfl rfl (by omega)|exact .indexC 0 rfl rfl rfl (by omega)|exact .indexC 1 rfl rfl rfl (by omega)|exact .indexC 2 rfl rfl rfl (by omega)|exact .indexArrC _ rfl rfl rfl (by omega)|exact .indexArrC 0 rfl rfl rfl (by omega)|exact .indexArrC 1 rfl rfl rfl (by omega)|exact .indexArrC 2 rfl rfl rfl (by omega)|exact .add _ rfl rfl (wrap_i64 (by omega))|exact .sub _ rfl rfl (wrap_i64 (by omega))|exact .rem _ rfl rfl (by decide) (Int.tmod_eq_emod_of_nonneg (by omega))|exact .cmpT rfl rfl rfl (by unfold cmpP;omega)|exact .cmpF rfl rfl rfl (by unfold cmpP;omega)|fail)|fail)
    exact E.endN _ ⟨rfl, rfl, by rw [List.append_nil]; exact hT10.later k79.size hbb, k79.any.then k10⟩ ⟨rfl, rfl, rfl, rfl, rfl, rfl, rfl, rfl, trivial⟩
  · obtain ⟨b', o', e1, hFb, hcs⟩ := Bytes.cells hk9 (by omega)
    cases e1
    obtain ⟨b9', o9', e9, hFb9, hcs9⟩ := Bytes.cells hB9 (by decide)
    cases e9
    refine W.st rfl rfl (St.appendGrow (ff.map byteV) (key.map byteV) rfl rfl hcs9 rfl hcs (by simp) (bytes_one _) (by omega) (by
      unfold Builtin.nextslicecap
      split
      · omega
      · rw [if_pos (by decide)]; omega) (by omega)) (fun v10 w10 h10 => ?_)
    obtain ⟨b10, cap, rfl, hcap, a10, k10, s10, c10⟩ := h10
    have hB10 : Bytes (fun k => k = b10) w10 (.slice (some ⟨b10, 0, none⟩) (3 + key.length) cap) (ff ++ key) := by
      have e : 3 + key.length = (ff ++ key).length := by simp [ff]; omega
      rw [e]
      refine bytes_cells (fun i x hi => ?_) (by omega) (by omega)
      have := c10 i (byteV x) (by rw [← List.map_append, List.getElem?_map, hi]; rfl)
      simpa using this
    have k710 := k79.then k10
    refine W.st rfl rfl (St.callC rfl (tput_spec Gb _ bb tb _ _ (ff ++ key) [] w10 (hT.up k710) hB10 Sl.nil (by omega))) (fun v11 w11 h11 => ?_)
    obtain ⟨rfl, hT11, k11⟩ := h11
    (repeat first|refine .seq ?_|refine .region ?_|refine .block ?_|refine .skip ?_|refine .ret ?_|refine .exit ?_|refine .yes rfl ?_|refine .no rfl ?_|refine .nil ?_|refine .go ?_|refine .thenExit ?_|refine .thenRet ?_|refine .inExit ?_|refine .outExit rfl ?_|refine .inNormal ?_|refine .inRet ?_|refine .off rfl rfl ?_|refine .offU rfl rfl rfl ?_|(apply W.y rfl rfl;first|exact .move rfl|exact .assign rfl|exact .fieldC rfl|exact .loadW rfl (by (first|apply Ld.oneC|apply Ld.two|apply Ld.three|apply Ld.four|apply Ld.five);repeat(first|assumption|exact Row.cell (by assumption) (by first|rfl|assumption)))|exact .nilCheck rfl|exact .lenC rfl|exact .lenStrC rfl|exact .extract rfl rfl|exact .not rfl|exact .pickT rfl rfl|exact .pickF rfl rfl|exact .buildC rfl rfl|exact .indexC _ rfl rfl rfl (by omega)|exact .indexC 0 rfl rfl rfl (by omega)|exact .indexC 1 rfl rfl rfl (by omega)|exact .indexC 2 rfl rfl rfl (by omega)|exact .indexArrC _ rfl rfl rfl (by omega)|exact .indexArrC 0 rfl rfl rfl (by omega)|exact .indexArrC 1 rfl rfl rfl (by omega)|exact .indexArrC 2 rfl rfl rfl (by omega)|exact .add _ rfl rfl (wrap_i64 (by omega))|exact .sub _ rfl rfl (wrap_i64 (by omega))|exact .rem _ rfl rfl (by decide) (Int.tmod_eq_emod_of_nonneg (by omega))|exact .cmpT rfl rfl rfl (by unfold cmpP;omega)|exact .cmpF rfl rfl rfl (by unfold cmpP;omega)|fail)|fail)
    exact E.endN _ ⟨rfl, rfl, hT11.later k710.size hbb, k710.any.then k11⟩ ⟨rfl, rfl, rfl, rfl, rfl, rfl, rfl, rfl, trivial⟩
end Go.Proofs.Ytmneommbdfapfaa
