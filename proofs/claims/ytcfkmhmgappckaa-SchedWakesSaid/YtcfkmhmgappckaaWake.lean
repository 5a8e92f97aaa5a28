/- Wake. No condition but on size. -/
import Derived.Test.YtcfkmhmgappckaaEndB
namespace Go.Proofs.Ytcfkmhmgappckaa
open Go.RowKit Go.Proofs.Ytcfkmhmgappckaa.Sc Go.Proofs.Ytcfkmhmgappckaa.PAll Go.Proofs.YtcfkmhmgappckaaW.PrintWords Go.Proofs.YtcfkmhmgappckaaW.PrintLast Go.Proofs.YtcfkmhmgappckaaW.PrintMore

theorem RowIn.pairAt {w : World} {base t : Nat} {ob : Option Nat} {v : Value} {l : List (Int × Int)} (h : RowIn w base t 2 ob v (pairs l)) : v = .slice none 0 0 ∧ l = [] ∨ ∃ b o c, ob = some b ∧ v = .slice (some ⟨b, o, none⟩) l.length c ∧ ∀ j, (hj : j < l.length) → w.cell? ⟨b, o + j * 2, none⟩ = some (.int .i64 (l[j]).1) ∧ w.cell? ⟨b, o + j * 2 + 1, none⟩ = some (.int .i64 (l[j]).2) := by
  rcases h.2 with ⟨_, e, e2⟩ | ⟨b, off, cap, cs, e0, e, _, hc, h1, h2, h3⟩
  · exact .inl ⟨e, by simpa [pairs] using e2⟩
  · refine .inr ⟨b, off * 2, cap, e0, by rw [e]; simp [pairs], fun j hj => ?_⟩
    have hl : (pairs l).length = l.length := by simp [pairs]
    have k0 := h3 (j * 2) (by rw [hl]; omega)
    have k1 := h3 (j * 2 + 1) (by rw [hl]; omega)
    have f0 := flat2 (pairs l) (fun c hc => by obtain ⟨x, _, rfl⟩ := List.mem_map.1 hc; rfl) j 0 (by omega)
    have f1 := flat2 (pairs l) (fun c hc => by obtain ⟨x, _, rfl⟩ := List.mem_map.1 hc; rfl) j 1 (by omega)
    have hx : (pairs l)[j]? = some [.int .i64 (l[j]).1, .int .i64 (l[j]).2] := by simp [pairs, hj]
    rw [hx] at f0 f1
    rw [Nat.mul_comm 2 j] at f0 f1
    constructor
    · unfold World.cell?
      simp only [hc]
      show cs[off * 2 + j * 2]? = _
      rw [k0]; exact f0
    · unfold World.cell?
      simp only [hc]
      show cs[off * 2 + j * 2 + 1]? = _
      rw [Nat.add_assoc, k1]; exact f1
/-- A condition's row is taken out. -/
theorem Sch.taken {w : World} {base g : Nat} {F : Nat → Prop} {S : Sd} (h : Sch w base g F S) (c : Nat) (hc : c < S.R.length) : ∃ bR ob u0, w.cell? ⟨g, 2, none⟩ = some (.slice (some ⟨bR, 0, none⟩) S.R.length S.R.length) ∧ w.cell? ⟨bR, c, none⟩ = some u0 ∧ w.frozen? ⟨bR, c, none⟩ = false ∧ bR ≠ g ∧
    RowIn w base 67 2 ob u0 (pairs (S.R[c])) ∧ Sch (w.setCell ⟨bR, c, none⟩ (.slice none 0 0)) base g (fun k => F k ∧ some k ≠ ob) (setR S c []) ∧ F bR ∧ some bR ≠ ob := by
  obtain ⟨h0, bT, bM, bR, vs, us, h1, f1, f2, f3, f4, f5⟩ := h
  obtain ⟨⟨ob, u0⟩, hu, hcell⟩ := h1.cR c hc
  have hul : c < us.length := by have := h1.lenU; omega
  have hmem : (ob, u0) ∈ vs ++ us := by have := List.mem_of_getElem? hu; simp [this]
  have hR := h1.rests c _ _ (List.getElem?_eq_getElem hc) hu
  have h2 := h1.setU c hc (x' := []) hu (grown_refl w ob) (ob' := none) (v' := .slice none 0 0) ⟨fun d hd => by simp [pairs] at hd, .inl ⟨rfl, rfl, rfl⟩⟩ (.inl rfl)
  have hat : (vs ++ us)[vs.length + c]? = some (ob, u0) := by rw [List.getElem?_append_right (by omega), Nat.add_sub_cancel_left]; exact hu
  have hne : ∀ b, (b = g ∨ b = bT ∨ b = bM ∨ b = bR) → some b ≠ ob := fun b hb e => h1.far hb _ hmem e.symm
  have hothers : ∀ (i : Nat) (x : Option Nat × Value), (vs ++ us)[i]? = some x → i ≠ vs.length + c → ∀ b, x.1 = some b → some b ≠ ob := by
    intro i x hi hne b hb e
    have hp := (List.pairwise_append.1 h1.apart).2.1
    rw [List.pairwise_iff_getElem] at hp
    obtain ⟨hi2, hi3⟩ := List.getElem?_eq_some_iff.1 hi
    obtain ⟨hm2, hm3⟩ := List.getElem?_eq_some_iff.1 hat
    rcases Nat.lt_or_gt_of_ne hne with hlt | hlt
    · have := hp i (vs.length + c) (by simpa using hi2) (by simpa using hm2) hlt
      simp only [List.getElem_map, hi3, hm3, hb, ← e] at this
      simp at this
    · have := hp (vs.length + c) i (by simpa using hm2) (by simpa using hi2) hlt
      simp only [List.getElem_map, hi3, hm3, hb, ← e] at this
      simp at this
  refine ⟨bR, ob, u0, h1.c2, hcell, by simp [World.frozen?, h1.R], h1.ne3.2.2.1, hR, ⟨fun k hk => ⟨(h0 k hk.1).1, by simpa [World.setCell] using (h0 k hk.1).2⟩, bT, bM, bR, vs, us.set c (none, .slice none 0 0), h2, ⟨f1, hne g (by simp)⟩, ⟨f2, hne bT (by simp)⟩, ⟨f3, hne bM (by simp)⟩, ⟨f4, hne bR (by simp)⟩, fun x hx k hk => ?_⟩, f4, hne bR (by simp)⟩
  rcases List.mem_append.1 hx with hx | hx
  · obtain ⟨i, hi, rfl⟩ := List.getElem_of_mem hx
    exact ⟨f5 _ (List.mem_append.2 (.inl hx)) k hk, hothers i _ (by rw [List.getElem?_append_left hi, List.getElem?_eq_getElem hi]) (by omega) k hk⟩
  · obtain ⟨i, hi, rfl⟩ := List.getElem_of_mem hx
    rw [List.length_set] at hi
    by_cases e : c = i
    · subst e; simp at hk
    · simp only [List.getElem_set, if_neg e] at hk
      exact ⟨f5 _ (List.mem_append.2 (.inr (List.getElem_mem hi))) k hk, hothers (vs.length + i) (us[i]) (by rw [List.getElem?_append_right (by omega), Nat.add_sub_cancel_left, List.getElem?_eq_getElem hi]) (by omega) k hk⟩
theorem Next.wider {w w1 w2 : World} {base g : Nat} {F : Nat → Prop} {G : Nat → Prop} {S : Sd} (hm : Moves F w w1) (h0 : ∀ k, F k → base ≤ k ∧ k < w.heap.size) (hb : base ≤ w.heap.size) (hG : ∀ k, G k → F k) (h : Next w1 base g G S w2) : Next w base g F S w2 := by
  have hsz := hm.size
  have hsz2 := h.2.size
  refine ⟨h.1.mono (fun k q => ?_) (fun k q => ?_), ⟨h.2.os.trans hm.os, h.2.tape.trans hm.tape, h.2.output.trans hm.output, Nat.le_trans hsz hsz2, fun k hk hn => (h.2.block k (by omega) (fun q => hn (hG k q))).trans (hm.block k hk hn)⟩⟩
  · rcases q with q | q
    · exact .inl (hG k q)
    · exact .inr ⟨by omega, q.2⟩
  · rcases q with q | q
    · have := h0 k q; omega
    · omega
end Go.Proofs.Ytcfkmhmgappckaa
