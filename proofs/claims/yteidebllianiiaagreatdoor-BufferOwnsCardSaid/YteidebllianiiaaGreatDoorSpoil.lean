/- Cells that are written over in rows of one's own. No condition. -/
import Derived.Test.YteidebllianiiaaGreatDoorLikeW
set_option linter.unusedVariables false
set_option linter.unusedSimpArgs false
namespace Go.Proofs.YteidebllianiiaaGreatDoor
open Go.RowKit Go.Proofs.YteidebllianiiaaGreatDoor.PAll Go.Proofs.YteidebllianiiaaGreatDoorW.PrintWords Go.Proofs.YteidebllianiiaaGreatDoorW.PrintLast Go.Proofs.YteidebllianiiaaGreatDoorW.PrintMore

/-- Only cells of blocks of type T among Q have turned. -/
structure Spoils (Q : Nat → Prop) (T : Nat) (W W' : World) : Prop where
  os : W'.os = W.os
  tape : W'.tape = W.tape
  output : W'.output = W.output
  size : W'.heap.size = W.heap.size
  blk : ∀ k, W'.heap[k]? = W.heap[k]? ∨ (Q k ∧ ∃ cs cs' : Array Value, W.heap[k]? = some (.cells cs T (0, 0)) ∧ W'.heap[k]? = some (.cells cs' T (0, 0)) ∧ cs'.size = cs.size)
section
variable {Q : Nat → Prop} {T : Nat} {W W' : World}
theorem Spoils.refl (Q : Nat → Prop) (T : Nat) (W : World) : Spoils Q T W W := ⟨rfl, rfl, rfl, rfl, fun _ => .inl rfl⟩
theorem Spoils.block (h : Spoils Q T W W') {g : Nat} {cs : Array Value} (hg : W.heap[g]? = some (.cells cs T (0, 0))) : ∃ cs', W'.heap[g]? = some (.cells cs' T (0, 0)) ∧ cs'.size = cs.size := by
  rcases h.blk g with q | ⟨_, c1, c2, h1, h2, h3⟩
  · exact ⟨cs, q.trans hg, rfl⟩
  · rw [hg] at h1
    injection h1 with h1
    injection h1 with h1 _ _
    exact ⟨c2, h2, by rw [h3, h1]⟩
theorem Spoils.other (h : Spoils Q T W W') {g t : Nat} {cs : Array Value} (hg : W.heap[g]? = some (.cells cs t (0, 0))) (ht : t ≠ T) : W'.heap[g]? = some (.cells cs t (0, 0)) := by
  rcases h.blk g with q | ⟨_, c1, c2, h1, _, _⟩
  · exact q.trans hg
  · rw [hg] at h1
    injection h1 with h1
    injection h1 with _ h1 _
    exact (ht h1).elim
theorem Spoils.store (h : Spoils Q T W W') {g : Nat} {cs : Array Value} (hg : W'.heap[g]? = some (.cells cs T (0, 0))) (hQ : Q g) (j : Nat) (u : Value) : Spoils Q T W (W'.setCell ⟨g, j, none⟩ u) := by
  refine ⟨h.os, h.tape, h.output, by rw [setCell_size]; exact h.size, fun k => ?_⟩
  by_cases hk : k = g
  · subst hk
    refine .inr ⟨hQ, ?_⟩
    have hs := blk_set hg j u
    rcases h.blk k with q | ⟨_, c1, c2, h1, h2, h3⟩
    · exact ⟨cs, _, q.symm.trans hg, hs, by simp⟩
    · rw [hg] at h2
      injection h2 with h2
      injection h2 with h2 _ _
      exact ⟨c1, _, h1, hs, by simp [h2, h3]⟩
  · rcases h.blk k with q | ⟨q1, c1, c2, h1, h2, h3⟩
    · exact .inl ((Below.heap_setCell W' _ u k hk).trans q)
    · exact .inr ⟨q1, c1, c2, h1, (Below.heap_setCell W' _ u k hk).trans h2, h3⟩
theorem Spoils.moves (h : Spoils Q T W W') {F : Nat → Prop} (hF : ∀ k, Q k → F k) : Moves F W W' :=
  ⟨h.os, h.tape, h.output, by rw [h.size]; exact Nat.le_refl _, fun k _ hn => (h.blk k).elim (fun q => q) (fun q => (hn (hF k q.1)).elim)⟩
theorem Spoils.buf (h : Spoils Q T W W') {K : Nat → Prop} {b : Nat} {L : List Ent} {last : Int} (hB : Buf K b L last W) (hQ : ∀ k, Q k → K k) : Buf K b L last W' :=
  hB.step (by rw [h.size]; exact Nat.le_refl _) (fun k hk _ => (h.blk k).elim (fun q => q) (fun q => (hk (hQ k q.1)).elim))
theorem Spoils.below (h : Spoils Q T W W') {N : Nat} (hN : N ≤ W.heap.size) (hQ : ∀ k, Q k → N ≤ k) : Below N W W' :=
  ⟨h.os, h.tape, h.output, by rw [h.size]; exact Nat.le_refl _, fun k hk => (h.blk k).elim (fun q => q) (fun q => by have := hQ k q.1; omega)⟩
end
/-- A row of one's own that is not empty: its block. -/
theorem own_blk2 {α : Type} {d : Kd α} {e base n c : Nat} {ok : Nat → Prop} {W : World} {A : Option Addr} {l : List α} (h : Kd.R d e W base ok (.slice A n c) l) (h0 : 0 < l.length) :
    ∃ g cs, A = some ⟨g, 0, none⟩ ∧ W.heap[g]? = some (.cells cs e (0, 0)) ∧ l.length * d.sz ≤ cs.size ∧ ok g ∧ base ≤ g ∧ g < W.heap.size := by
  obtain ⟨h1, inner, ho, _⟩ := h
  have hlt := own_lt ho
  rcases ho.2 with ⟨hv, h2⟩ | ⟨g, cap, cur, hv, hb, hc, h3, h4, h5, h6⟩
  · omega
  · simp only [Value.slice.injEq] at hv
    refine ⟨g, cur, hv.1, hc, ?_, h1 g (by rw [hv.1]; rfl), hb, hlt g (by rw [hv.1]; rfl)⟩
    rw [h5]
    exact Nat.mul_le_mul_right _ h3
theorem cell_of_size {W : World} {g t j : Nat} {cs : Array Value} (h : W.heap[g]? = some (.cells cs t (0, 0))) (hj : j < cs.size) : ∃ u, W.cell? ⟨g, j, none⟩ = some u :=
  ⟨cs[j], by rw [blk_cell h j]; exact Array.getElem?_eq_getElem hj⟩
end Go.Proofs.YteidebllianiiaaGreatDoor
