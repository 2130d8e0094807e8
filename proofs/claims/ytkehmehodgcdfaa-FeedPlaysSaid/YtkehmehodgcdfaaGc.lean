/- One int is appended to a tuple that may be written. -/
import Derived.Test.YtkehmehodgcdfaaGb
import Derived.Deep.AppendSrc
namespace Go.Proofs.Ytkehmehodgcdfaa
open Vb Go.RowKit

theorem put_setCells (P : Program) {w : World} {b : Nat} {t : TypeId} {cs : List Value} (h : Row w b t cs) {o : Nat} {ds : List Value} (hl : o + ds.length ≤ cs.length) (h1 : ∀ v ∈ ds, v.oneCell' = true) : Put w (w.setCells b o ds) b t (splice cs o ds) ∧ (∀ j, j < ds.length → (w.cell? ⟨b, o + j, none⟩).isSome = true) ∧ (∀ j, j < ds.length → w.frozen? ⟨b, o + j, none⟩ = false) := by
  have hc : ∀ j, j < ds.length → (w.cell? ⟨b, o + j, none⟩).isSome = true := fun j hj => by
    have : cs[o + j]? = some (cs[o + j]'(by omega)) := List.getElem?_eq_getElem (by omega)
    rw [h.cell this]; rfl
  have hf : ∀ j, j < ds.length → w.frozen? ⟨b, o + j, none⟩ = false := fun j hj => by
    simp [World.frozen?, (show w.heap[b]? = _ from h)]
  obtain ⟨w', h2, h3⟩ := storeCells_run (P := P) h hl h1
  have h4 := run_storeCells_cells (P := P) b o ds 0 w (by simpa using hc) (by simpa using hf) h1
  have h5 : (storeCells ⟨b, o, none⟩ ds 0).run P w = .ok () w' := h2
  rw [h5] at h4
  simp only [Nat.add_zero, Result.ok.injEq, true_and] at h4
  subst h4
  exact ⟨h3, hc, hf⟩
theorem St.appendRoom {P : Program} {nn : Nat} {L : FL} {w : World} {ty t e rt : TypeId} {s x : Operand} {z u : Value} {bytes b o n c b5 o5 c5 : Nat} {cs : List Value} [ht : SlC P t e] [he : TyC P e z 1 bytes] (hs : ev L s = some (.slice (some ⟨b, o, none⟩) n c)) (hx : ev L x = some (.slice (some ⟨b5, o5, none⟩) 1 c5))
    (hnews : Cells w b5 o5 [u]) (h1 : u.oneCell' = true) (hn : n < c) (hr : Row w b rt cs) (hl : o + n + 1 ≤ cs.length) :
    St P nn L w (.call { callee := .builtin .append, args := #[s, x], argTypes := #[t, t] }) ty (fun v' w' => v' = .slice (some ⟨b, o, none⟩) (n + 1) c ∧ Put w w' b rt (splice cs (o + n) [u])) :=
  St.run fun a ha dst pos after guard => by
    obtain ⟨i, hi, hz0, hz1, hz2⟩ := he.out.get
    have hsrc : Src P i.size t (.slice (some ⟨b5, o5, none⟩) 1 c5) 1 [u] w := Src.ofSlice w ht.out _ _ _ _ (by rw [hz1]; rfl) (fun j u hj => by rw [add_addr]; exact hnews j u hj) (fun v hv => by simp only [List.mem_singleton] at hv; subst hv; exact h1)
    obtain ⟨g1, g2, g3⟩ := put_setCells P hr (o := o + n) (ds := [u]) (by simpa using hl) (fun v hv => by simp only [List.mem_singleton] at hv; subst hv; exact h1)
    have hrun := run_append_room_src (P := P) w t t ty e i ht.out hi b o n c _ 1 [u] hsrc (by omega) (by rw [hz1, Nat.mul_one]; exact g2) (by rw [hz1, Nat.mul_one]; exact g3)
    rw [hz1, Nat.mul_one] at hrun
    exact ⟨_, _, by simp [execOp, resolve, invoke, builtin, ha.eval hs, ha.eval hx, hrun], rfl, g1⟩
theorem grow_fits {n : Nat} (h : n * 8 ≤ 140737488351232) : Builtin.nextslicecap (n + 1) n * 8 ≤ 281474976710656 := growslice_fits_wide (by omega) (by omega)

theorem St.appendIL {nn : Nat} {L : FL} {w : World} {ty : TypeId} {s x : Operand} {v : Value} {F : Nat → Prop} {n b5 c5 : Nat} {y : Int} (hs : ev L s = some v) (hI : IL F w v n) (hW : ∀ k, F k → Writ w k) (hx : ev L x = some (.slice (some ⟨b5, 0, none⟩) 1 c5)) (hnews : Cells w b5 0 [.int .i64 y]) :
    St Try.prog nn L w (.call { callee := .builtin .append, args := #[s, x], argTypes := #[40, 40] }) ty (fun v' w' => v'.oneCell' = true ∧ ((∃ b, F b ∧ Poke w w' b) ∨ Keep Non w w')) := by
  have hlen := hI.len
  obtain ⟨xs, rfl, hints, hap⟩ := hI
  have hgrow : ∀ b o, v = .slice (some ⟨b, o, none⟩) xs.length xs.length → St Try.prog nn L w (.call { callee := .builtin .append, args := #[s, x], argTypes := #[40, 40] }) ty (fun v' w' => v'.oneCell' = true ∧ ((∃ b, F b ∧ Poke w w' b) ∨ Keep Non w w')) := fun b o e => by
    subst e
    have hcs : Cells w b o (xs.map (Value.int .i64)) := by
      by_cases h0 : xs.length = 0
      · have : xs = [] := List.eq_nil_of_length_eq_zero h0
        subst this
        intro j u hj; simp at hj
      · obtain ⟨b', o', e1, _, h⟩ := hints.cells (by omega)
        cases e1
        exact h
    refine (St.appendGrow (xs.map (Value.int .i64)) [.int .i64 y] hs hx hcs (by simp) hnews rfl (fun u hu => by simp only [List.mem_singleton] at hu; subst hu; rfl) (by omega) (grow_fits hlen) (by omega)).imp (fun v' w' h => ?_)
    obtain ⟨b', cap, rfl, _, _, h, _⟩ := h
    exact ⟨rfl, .inr h⟩
  rcases hap with ⟨rfl, h0⟩ | ⟨b, o, e⟩ | ⟨base, cs, hown, hF⟩
  · have hown : w.ownsRow 0 3 1 (.slice none 0 0) 0 [] := ⟨rfl, .inl ⟨rfl, rfl⟩⟩
    refine (St.appendC 0 [.int .i64 y] hs hx hown hnews rfl (fun u hu => by simp only [List.mem_singleton] at hu; subst hu; rfl) (by decide) (Nat.zero_le _)).imp (fun v' w' h => ?_)
    obtain ⟨h1, h2, h3⟩ := h
    refine ⟨?_, .inr (h2.mono (fun k hk e => by cases e))⟩
    obtain ⟨c, e | ⟨b, o, e⟩⟩ := own_pl h1 <;> (rw [e]; rfl)
  · exact hgrow b o e
  · rcases hown.2 with ⟨e1, e2⟩ | ⟨g, cap, cur, rfl, hg, hh, hcap, hm, hsz, ht⟩
    · subst e1
      have hown' : w.ownsRow 0 3 1 (.slice none 0 0) 0 [] := ⟨rfl, .inl ⟨rfl, rfl⟩⟩
      refine (St.appendC 0 [.int .i64 y] hs hx hown' hnews rfl (fun u hu => by simp only [List.mem_singleton] at hu; subst hu; rfl) (by decide) (Nat.zero_le _)).imp (fun v' w' h => ?_)
      obtain ⟨h1, h2, h3⟩ := h
      refine ⟨?_, .inr (h2.mono (fun k hk e => by cases e))⟩
      obtain ⟨c, e | ⟨b, o, e⟩⟩ := own_pl h1 <;> (rw [e]; rfl)
    · by_cases hc : cap = xs.length
      · subst hc
        exact hgrow g 0 rfl
      · have hr : Row w g 3 cur.toList := by simpa [Row] using hh
        have hcl : cur.toList.length = cap := by simpa using hsz
        refine (St.appendRoom hs hx hnews rfl (by omega) hr (by omega)).imp (fun v' w' h => ?_)
        obtain ⟨rfl, h2⟩ := h
        exact ⟨rfl, .inl ⟨g, hF g rfl, ⟨h2.keep, _, _, _, y, hr, h2, by omega⟩⟩⟩
end Go.Proofs.Ytkehmehodgcdfaa
