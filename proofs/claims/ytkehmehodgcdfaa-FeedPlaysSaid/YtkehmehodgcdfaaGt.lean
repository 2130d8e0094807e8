/- FeedPlays: what holds between the feed and the document's feed. -/
import Derived.Test.YtkehmehodgcdfaaGs
namespace Go.Proofs.Ytkehmehodgcdfaa
open Vb Go.RowKit

theorem cut12_numbered (last : Nat) (ds : List Delta) (d : Delta) (h12 : ds.length ≤ 12) (hle : ds.length ≤ last) : cut12 (numbered (last - ds.length + 1) ds ++ [((last : Int) + 1, d)]) = numbered (last + 1 - (push ds d).length + 1) (push ds d) :=
  radd_numbered last ds d h12 hle
theorem good_numbered (last : Int) (es : List (Int × Delta)) (h : Good last es) : es = numbered (last.toNat - (es.map (·.2)).length + 1) (es.map (·.2)) := by
  refine List.ext_getElem? (fun i => ?_)
  rw [numbered_get, List.getElem?_map, List.length_map]
  cases he : es[i]? with
  | none => rfl
  | some e =>
    have h1 := (h.each i e he).1
    have h2 := h.low
    have h3 := h.fits
    simp only [Option.map_some, Option.some.injEq]
    exact Prod.ext (by simp only; omega) rfl
theorem rpoll_eq (last : Nat) (ds : List Delta) (after most : Int) :
    (if rcode last (numbered (last - ds.length + 1) ds).length after most = 0 then rpoll (numbered (last - ds.length + 1) ds) after most else []) = pollList last ds after most := by
  unfold pollList
  rw [rcode_eq, numbered_length]
  by_cases h : pollCode last ds.length after most = 0
  · rw [if_pos h, if_pos h]
    unfold pollCode at h
    have h0 : 0 ≤ after := by
      by_cases h0 : after < 0
      · rw [if_pos (.inl h0)] at h; omega
      · omega
    have h1 : ¬ (after < 0 ∨ (last : Int) < after) := fun h1 => by rw [if_pos h1] at h; omega
    rw [if_neg h1] at h
    have h2 : 1 ≤ most := by
      by_cases h2 : most < 1
      · rw [if_pos h2] at h; omega
      · omega
    rw [rpoll_numbered _ _ _ _ h0 h2]
    congr 2
    omega
  · rw [if_neg h, if_neg h]
theorem numbered_mem {f : Nat} {ds : List Delta} {x : Int × Delta} (h : x ∈ numbered f ds) : x.2 ∈ ds := by
  obtain ⟨i, hi, rfl⟩ := List.mem_iff_getElem.1 h
  have hg := numbered_get f ds i
  rw [List.getElem?_eq_getElem hi] at hg
  obtain ⟨d, hd, he⟩ := Option.map_eq_some_iff.1 hg.symm
  rw [← he]
  exact List.mem_of_getElem? hd
theorem pollList_mem {last : Nat} {ds : List Delta} {after most : Int} {x : Int × Delta} (h : x ∈ pollList last ds after most) : x.2 ∈ ds := by
  unfold pollList at h
  split at h
  · exact numbered_mem (List.mem_of_mem_drop (List.mem_of_mem_take h))
  · cases h
theorem pollList_len (last : Nat) (ds : List Delta) (after most : Int) : (pollList last ds after most).length ≤ ds.length := by
  unfold pollList
  split
  · rw [List.length_take, List.length_drop, numbered_length]; omega
  · exact Nat.zero_le _
theorem push_mem {ds : List Delta} {d x : Delta} (h : x ∈ push ds d) : x ∈ ds ∨ x = d := by
  unfold push at h
  split at h
  · rcases List.mem_append.1 h with h | h
    · exact .inl (List.mem_of_mem_drop h)
    · exact .inr (by simpa using h)
  · rcases List.mem_append.1 h with h | h
    · exact .inl h
    · exact .inr (by simpa using h)
theorem addL_mem {ds : List Delta} {d x : Delta} (h : x ∈ addL ds d) : x ∈ ds ∨ x = d := by
  unfold addL at h
  split at h
  · exact push_mem h
  · exact .inl h

theorem radd_spec (F G : Nat → Prop) (last : Nat) (vk va vd : Value) (ds : List Delta) (d : Delta) (w : World) (hE : Entries F w vk (numbered (last - ds.length + 1) ds)) (hd : Deltas G w va vd d) (hF : ∀ k, F k → k < w.heap.size) (hG : ∀ k, G k → k < w.heap.size) (hl : last ≤ 1099511627776) (h12 : ds.length ≤ 12) (hle : ds.length ≤ last) :
    Meets Try.prog 22 #[.agg #[.int .i64 last, vk], .agg #[va, vd]] w (fun r w' => ∃ v', r = .tuple #[.agg #[.int .i64 (addN last d : Nat), v'], .bool (isFull d)] ∧ Entries (fun k => F k ∨ G k ∨ Fresh w w' k) w' v' (numbered (addN last d - (addL ds d).length + 1) (addL ds d)) ∧ Keep Non w w') := by
  unfold addN addL isFull
  cases h0 : (d.1.isEmpty && d.2.isEmpty)
  · refine (radd_yes F G last vk va vd _ d w hE hd hF hG (by omega) (by rw [numbered_length]; exact h12) h0).imp (fun r w' h => ?_)
    obtain ⟨v', rfl, h1, h2⟩ := h
    rw [cut12_numbered last ds d h12 hle] at h1
    exact ⟨v', rfl, h1, h2⟩
  · refine (radd_no F G last vk va vd _ d w hE hd h0).imp (fun r w' h => ?_)
    obtain ⟨rfl, h2⟩ := h
    exact ⟨vk, rfl, (hE.keep h2 (fun _ _ => non_not _)).mono (fun _ h => .inl h), h2⟩

/-- The feed at b and the document's feed at bm hold the same; all that is looked at lies in B. -/
structure ST (B : Nat → Prop) (w : World) (b bm last : Nat) (ds : List Delta) : Prop where
  feed : FeedAt (fun k => B k ∧ k ≠ b ∧ k ≠ bm) w b last ds
  ref : ∃ vk, Row w bm 49 [.int .i64 last, vk] ∧ Entries (fun k => B k ∧ k ≠ b ∧ k ≠ bm) w vk (numbered (last - ds.length + 1) ds)
  ne : b ≠ bm
  inb : B b
  inm : B bm
  lt : ∀ k, B k → k < w.heap.size
  small : ∀ d ∈ ds, d.1.length + d.2.length ≤ 50
theorem ST.keep {B S : Nat → Prop} {w w' : World} {b bm last : Nat} {ds : List Delta} (h : ST B w b bm last ds) (k : Keep S w w') (hS : ∀ k, B k → ¬ S k) : ST B w' b bm last ds := by
  obtain ⟨h1, ⟨vk, h2, h3⟩, h4, h5, h6, h7, h8⟩ := h
  exact ⟨h1.keep k (fun k hk => hS k hk.1) (hS b h5), ⟨vk, h2.keep k (hS bm h6), h3.keep k (fun k hk => hS k hk.1)⟩, h4, h5, h6, fun j hj => by have := h7 j hj; have := k.size; omega, h8⟩
theorem ST.mono {B B' : Nat → Prop} {w : World} {b bm last : Nat} {ds : List Delta} (h : ST B w b bm last ds) (hB : ∀ k, B k → B' k) (hlt : ∀ k, B' k → k < w.heap.size) : ST B' w b bm last ds := by
  obtain ⟨h1, ⟨vk, h2, h3⟩, h4, h5, h6, h7, h8⟩ := h
  exact ⟨h1.mono (fun k hk => ⟨hB k hk.1, hk.2⟩) (fun h => h.2.1 rfl), ⟨vk, h2, h3.mono (fun k hk => ⟨hB k hk.1, hk.2⟩)⟩, h4, hB b h5, hB bm h6, hlt, h8⟩
theorem ST.n12 {B : Nat → Prop} {w : World} {b bm last : Nat} {ds : List Delta} (h : ST B w b bm last ds) : ds.length ≤ 12 ∧ ds.length ≤ last := by
  obtain ⟨⟨_, _, _, _, _, h1, h2, _⟩, _⟩ := h
  exact ⟨h1, h2⟩

/-! ### Arguments -/
/-- An entry's cells. -/
theorem Opens.entry : Opens Try.prog 39 (fun F w cs e => REntry F w cs e) := ⟨fun enc W fuel cs x h hw => by
  obtain ⟨n, hl, hf⟩ := trod_fields Try.underlying39 h
  obtain ⟨y0, h0, w0⟩ := hf 0 _ rfl
  obtain ⟨y1, h1, w1⟩ := hf 1 _ rfl
  obtain ⟨d0, e0, _⟩ := (Opens.int (t := 3) Try.underlying3).out enc W n _ y0 h0 (fun m hm => hw m (w0 m hm))
  obtain ⟨d1, va, vd, e1, g1⟩ := Opens.delta.out enc W n _ y1 h1 (fun m hm => hw m (w1 m hm))
  have c3 : Try.prog.cellsOf 3 = 1 := ty3.cellsOf
  have c32 : Try.prog.cellsOf 32 = 2 := ty32.cellsOf
  have c39 : Try.prog.cellsOf 39 = 3 := ty39.cellsOf
  rw [c39] at hl
  have e0 : (cs.drop 0).take (Try.prog.cellsOf 3) = [.int .i64 d0] := e0
  have e1 : (cs.drop 1).take (Try.prog.cellsOf 32) = [va, vd] := e1
  rw [c3] at e0
  rw [c32] at e1
  match cs, hl with
  | [a, b, c], _ =>
    simp at e0 e1
    obtain ⟨rfl, rfl⟩ := e1
    subst e0
    exact ⟨(d0, d1), _, _, rfl, g1⟩⟩
/-- A call of the script: Ask, After, Most, Delta. -/
def ROp (F : Nat → Prop) : World → List Value → Bool × Int × Int × Delta → Prop := fun w cs o => ∃ va vd, cs = [.bool o.1, .int .i64 o.2.1, .int .i64 o.2.2.1, va, vd] ∧ Deltas F w va vd o.2.2.2
theorem Opens.op : Opens Try.prog 54 (fun F w cs o => ROp F w cs o) := ⟨fun enc W fuel cs x h hw => by
  obtain ⟨n, hl, hf⟩ := trod_fields Try.underlying54 h
  obtain ⟨y0, h0, w0⟩ := hf 0 _ rfl
  obtain ⟨y1, h1, w1⟩ := hf 1 _ rfl
  obtain ⟨y2, h2, w2⟩ := hf 2 _ rfl
  obtain ⟨y3, h3, w3⟩ := hf 3 _ rfl
  obtain ⟨d0, e0⟩ := (Opens.bool (t := 4) Try.underlying4).out enc W n _ y0 h0 (fun m hm => hw m (w0 m hm))
  obtain ⟨d1, e1, _⟩ := (Opens.int (t := 3) Try.underlying3).out enc W n _ y1 h1 (fun m hm => hw m (w1 m hm))
  obtain ⟨d2, e2, _⟩ := (Opens.int (t := 3) Try.underlying3).out enc W n _ y2 h2 (fun m hm => hw m (w2 m hm))
  obtain ⟨d3, va, vd, e3, g3⟩ := Opens.delta.out enc W n _ y3 h3 (fun m hm => hw m (w3 m hm))
  have c3 : Try.prog.cellsOf 3 = 1 := ty3.cellsOf
  have c4 : Try.prog.cellsOf 4 = 1 := ty4.cellsOf
  have c32 : Try.prog.cellsOf 32 = 2 := ty32.cellsOf
  have c54 : Try.prog.cellsOf 54 = 5 := ty54.cellsOf
  rw [c54] at hl
  have e0 : (cs.drop 0).take (Try.prog.cellsOf 4) = [.bool d0] := e0
  have e1 : (cs.drop 1).take (Try.prog.cellsOf 3) = [.int .i64 d1] := e1
  have e2 : (cs.drop 2).take (Try.prog.cellsOf 3) = [.int .i64 d2] := e2
  have e3 : (cs.drop 3).take (Try.prog.cellsOf 32) = [va, vd] := e3
  rw [c4] at e0
  rw [c3] at e1 e2
  rw [c32] at e3
  match cs, hl with
  | [a, b, c, d, e], _ =>
    simp at e0 e1 e2 e3
    obtain ⟨rfl, rfl⟩ := e3
    subst e0; subst e1; subst e2
    exact ⟨(d0, d1, d2, d3), _, _, rfl, g3⟩⟩
end Go.Proofs.Ytkehmehodgcdfaa
