/- A schedule's blocks, and what a step leaves alone. No condition. -/
import Derived.Test.YtcfkmhmgappckaaStore
import Derived.Test.YtcfkmhmgappckaaPush
namespace Go.Proofs.Ytcfkmhmgappckaa
open Go.RowKit Go.Proofs.Ytcfkmhmgappckaa.Sc Go.Proofs.Ytcfkmhmgappckaa.PAll Go.Proofs.YtcfkmhmgappckaaW.PrintWords Go.Proofs.YtcfkmhmgappckaaW.PrintLast Go.Proofs.YtcfkmhmgappckaaW.PrintMore

theorem RowIn.lt {w : World} {base t sz : Nat} {ob : Option Nat} {v : Value} {l : List (List Value)} (h : RowIn w base t sz ob v l) (k : Nat) (hk : ob = some k) : base ≤ k ∧ k < w.heap.size := by
  rcases h.2 with ⟨e, _⟩ | ⟨b, off, cap, cs, e, _, hb, hc, _⟩
  · rw [e] at hk; cases hk
  · rw [e] at hk; cases hk; exact ⟨hb, heap_lt hc⟩
theorem pairwise_set {α : Type} {R : α → α → Prop} (hs : ∀ a b, R a b → R b a) : ∀ (l : List α) (i : Nat) (x : α), l.Pairwise R → (∀ z ∈ l, R x z) → (l.set i x).Pairwise R
  | [], _, _, _, _ => by simp
  | y :: l, 0, x, h, hx => by
    rw [List.set_cons_zero]
    exact List.pairwise_cons.2 ⟨fun z hz => hx z (by simp [hz]), (List.pairwise_cons.1 h).2⟩
  | y :: l, i + 1, x, h, hx => by
    rw [List.set_cons_succ]
    refine List.pairwise_cons.2 ⟨fun z hz => ?_, pairwise_set hs l i x (List.pairwise_cons.1 h).2 (fun z hz => hx z (by simp [hz]))⟩
    rcases List.mem_or_eq_of_mem_set hz with hz | rfl
    · exact (List.pairwise_cons.1 h).1 z hz
    · exact hs _ _ (hx y (by simp))
theorem apart_symm (a b : Option Nat) (h : a = none ∨ b = none ∨ a ≠ b) : b = none ∨ a = none ∨ b ≠ a := by
  rcases h with h | h | h
  · exact .inr (.inl h)
  · exact .inl h
  · exact .inr (.inr (Ne.symm h))
theorem set_self' {α : Type} (l : List α) (i : Nat) (x : α) (h : l[i]? = some x) : l.set i x = l := by
  apply List.ext_getElem?
  intro j
  rw [List.getElem?_set]
  split
  · rename_i e; subst e; split
    · exact h.symm
    · rename_i e2; rw [List.getElem?_eq_none (by omega)] at h; cases h
  · rfl
section
variable {w w1 : World} {base g bT bM bR : Nat} {vs us : List (Option Nat × Value)} {S : Sd}
theorem IsS.ltV (h : IsS w base g bT bM bR vs us S) (x : Option Nat × Value) (hx : x ∈ vs ++ us) (k : Nat) (hk : x.1 = some k) : base ≤ k ∧ k < w.heap.size := by
  rcases List.mem_append.1 hx with hx | hx
  · obtain ⟨i, hi, rfl⟩ := List.getElem_of_mem hx
    have hi2 : i < S.M.length := by have := h.lenV; omega
    exact (h.rows i _ _ (List.getElem?_eq_getElem hi2) (List.getElem?_eq_getElem hi)).lt k hk
  · obtain ⟨i, hi, rfl⟩ := List.getElem_of_mem hx
    have hi2 : i < S.R.length := by have := h.lenU; omega
    exact (h.rests i _ _ (List.getElem?_eq_getElem hi2) (List.getElem?_eq_getElem hi)).lt k hk
theorem IsS.blocks (h : IsS w base g bT bM bR vs us S) {b : Nat} (hb : b = g ∨ b = bT ∨ b = bM ∨ b = bR) : base ≤ b ∧ b < w.heap.size := by
  rcases hb with rfl | rfl | rfl | rfl
  · exact ⟨h.ge, heap_lt h.cell⟩
  · exact ⟨h.geT, heap_lt h.T⟩
  · exact ⟨h.geM, heap_lt h.M⟩
  · exact ⟨h.geR, heap_lt h.R⟩
theorem cellsM_setV (M : List (Int × List Int)) (vs : List (Option Nat × Value)) (m : Nat) (hm : m < M.length) (hv : m < vs.length) (r : List Int) (y : Option Nat × Value) :
    cellsM (M.set m ((M[m]).1, r)) (vs.set m y) = (cellsM M vs).set m [Value.int .i64 (M[m]).1, y.2] := by
  apply List.ext_getElem
  · simp [cellsM]
  · intro k h1 h2
    simp only [cellsM, List.getElem_zipWith, List.getElem_set]
    by_cases e : m = k
    · subst e; simp
    · simp [e]
/-- Another row for a mutex. -/
theorem IsS.setV (h : IsS w base g bT bM bR vs us S) (m : Nat) (hm : m < S.M.length) {ob : Option Nat} {v0 : Value} (hv : vs[m]? = some (ob, v0)) (hg : w.grownBy w1 ob) {ob' : Option Nat} {v' : Value} {r' : List Int}
    (hR : RowIn w1 base 3 1 ob' v' (ints r')) (hob : ob' = none ∨ ob' = ob ∨ ∃ k, ob' = some k ∧ w.heap.size ≤ k) :
    IsS (w1.setCell ⟨bM, m * 2 + 1, none⟩ v') base g bT bM bR (vs.set m (ob', v')) us (Sc.setM S m ((S.M[m]).1, r')) := by
  have hvl : m < vs.length := by have := h.lenV; omega
  have hmem : (ob, v0) ∈ vs ++ us := by have := List.mem_of_getElem? hv; simp [this]
  have hfar : ∀ b, (b = g ∨ b = bT ∨ b = bM ∨ b = bR) → w1.heap[b]? = w.heap[b]? := fun b hb => hg.block b (h.blocks hb).2 (fun e => h.far hb _ hmem e.symm)
  have hs : ∀ k, k ≠ bM → (w1.setCell ⟨bM, m * 2 + 1, none⟩ v').heap[k]? = w1.heap[k]? := fun k hk => Below.heap_setCell w1 ⟨bM, m * 2 + 1, none⟩ _ k hk
  obtain ⟨n1, n2, n3, n4, n5, n6⟩ := h.ne3
  have hz : (cellsM S.M vs)[m]? = some [Value.int .i64 (S.M[m]).1, v0] := by
    unfold cellsM
    rw [List.getElem?_zipWith, List.getElem?_eq_getElem hm, hv]
  have hfl := flat2_set v' 1 (by omega) (cellsM S.M vs) (cellsM_two _ _) m _ hz
  have hbM : ob' ≠ some bM := by
    rcases hob with e | e | ⟨k, e, hk⟩
    · rw [e]; simp
    · rw [e]; exact h.far (by simp) _ hmem
    · rw [e]; have := (h.blocks (b := bM) (by simp)).2; intro e2; cases e2; omega
  have hap := h.apart
  have hothers : ∀ (i : Nat) (x : Option Nat × Value), (vs ++ us)[i]? = some x → i ≠ m → ∀ b, x.1 = some b → ob ≠ some b := by
    intro i x hi hne b hb e
    have hp := (List.pairwise_append.1 hap).2.1
    rw [List.pairwise_iff_getElem] at hp
    obtain ⟨hi2, hi3⟩ := List.getElem?_eq_some_iff.1 hi
    have hm2 : m < (vs ++ us).length := by simp; omega
    have hm3 : (vs ++ us)[m] = (ob, v0) := by
      have : (vs ++ us)[m]? = some (ob, v0) := by rw [List.getElem?_append_left hvl]; exact hv
      exact (List.getElem?_eq_some_iff.1 this).2
    rcases Nat.lt_or_gt_of_ne hne with hlt | hlt
    · have := hp i m (by simpa using hi2) (by simpa using hm2) hlt
      simp only [List.getElem_map, hi3, hm3, hb, e] at this
      simp at this
    · have := hp m i (by simpa using hm2) (by simpa using hi2) hlt
      simp only [List.getElem_map, hi3, hm3, hb, e] at this
      simp at this
  have hkeep : ∀ (i : Nat) (x : Option Nat × Value), (vs ++ us)[i]? = some x → i ≠ m → ∀ b, x.1 = some b → (w1.setCell ⟨bM, m * 2 + 1, none⟩ v').heap[b]? = w.heap[b]? := by
    intro i x hi hne b hb
    have hx := List.mem_of_getElem? hi
    rw [hs b (fun e => h.far (b := bM) (by simp) x hx (by rw [hb, e]))]
    exact hg.block b (h.ltV x hx b hb).2 (fun e => hothers i x hi hne b hb e.symm)
  refine ⟨h.ge, ?_, h.geT, h.geM, h.geR, (hs _ n4).trans ((hfar bT (by simp)).trans h.T), ?_, ?_, fun i a v p q => ?_, h.lenU, (hs _ (Ne.symm n6)).trans ((hfar bR (by simp)).trans h.R), fun i a u p q => ?_, ?_⟩
  · rw [hs _ (Ne.symm n2), hfar g (by simp), h.cell]
    simp [Sc.setM]
  · rw [List.length_set, h.lenV]; simp [Sc.setM]
  · have hM := (hfar bM (by simp)).trans h.M
    rw [show List.zipWith (fun (x : Int × List Int) (v : Option Nat × Value) => [Value.int .i64 x.1, v.2]) S.M vs = cellsM S.M vs from rfl] at hM
    have e1 : (Sc.setM S m ((S.M[m]).1, r')).M = S.M.set m ((S.M[m]).1, r') := by simp [Sc.setM]
    rw [show List.zipWith (fun (x : Int × List Int) (v : Option Nat × Value) => [Value.int .i64 x.1, v.2]) (Sc.setM S m ((S.M[m]).1, r')).M (vs.set m (ob', v')) = cellsM (Sc.setM S m ((S.M[m]).1, r')).M (vs.set m (ob', v')) from rfl, e1, cellsM_setV _ _ m hm hvl]
    rw [List.set_cons_succ, List.set_cons_zero] at hfl
    rw [← hfl]
    simp [World.setCell, hM, Array.getElem?_modify]
  · have p' : (S.M.set m ((S.M[m]).1, r'))[i]? = some a := by simpa [Sc.setM] using p
    by_cases e : m = i
    · subst e
      rw [List.getElem?_set_self hm] at p'
      rw [List.getElem?_set_self hvl] at q
      obtain rfl := Option.some.inj p'
      obtain rfl := Option.some.inj q
      exact hR.same (fun b e => hs b (fun e2 => hbM (by rw [← e2, ← e])))
    · rw [List.getElem?_set_ne e] at p' q
      exact (h.rows i a v p' q).same (hkeep i v (by rw [List.getElem?_append_left (by have := (List.getElem?_eq_some_iff.1 q).1; exact this)]; exact q) (Ne.symm e))
  · exact (h.rests i a u p q).same (hkeep (vs.length + i) u (by rw [List.getElem?_append_right (by omega), Nat.add_sub_cancel_left]; exact q) (by omega))
  · have e1 : [some g, some bT, some bM, some bR] ++ (vs.set m (ob', v') ++ us).map (·.1) = ([some g, some bT, some bM, some bR] ++ (vs ++ us).map (·.1)).set (4 + m) ob' := by
      rw [List.set_append_right _ _ (by simp), ← List.set_append_left _ _ hvl, List.map_set]
      congr 2
      simp
    rw [e1]
    rcases hob with rfl | rfl | ⟨k, rfl, hk⟩
    · exact pairwise_set (R := fun a b => a = none ∨ b = none ∨ a ≠ b) apart_symm _ _ _ hap (fun z _ => .inl rfl)
    · rw [set_self' _ _ _ (by
        rw [List.getElem?_append_right (by simp)]
        simp only [List.length_cons, List.length_nil, Nat.add_sub_cancel_left, List.getElem?_map, List.getElem?_append_left hvl, hv, Option.map_some])]
      exact hap
    · refine pairwise_set (R := fun a b => a = none ∨ b = none ∨ a ≠ b) apart_symm _ _ _ hap (fun z hz => ?_)
      cases z with
      | none => exact .inr (.inl rfl)
      | some b =>
        refine .inr (.inr fun e => ?_)
        cases e
        rcases List.mem_append.1 hz with hz | hz
        · have := (h.blocks (b := k) (by simpa using hz)).2; omega
        · obtain ⟨x, hx, e⟩ := List.mem_map.1 hz
          have := (h.ltV x hx k e).2; omega
end
/-- What a step that owns the blocks F leaves alone. -/
structure Moves (F : Nat → Prop) (w w' : World) : Prop where
  os : w'.os = w.os
  tape : w'.tape = w.tape
  output : w'.output = w.output
  size : w.heap.size ≤ w'.heap.size
  block : ∀ k, k < w.heap.size → ¬ F k → w'.heap[k]? = w.heap[k]?
/-- F, and what is new. -/
def Plus (F : Nat → Prop) (w w' : World) (k : Nat) : Prop := F k ∨ (w.heap.size ≤ k ∧ k < w'.heap.size)
theorem Moves.refl (F : Nat → Prop) (w : World) : Moves F w w := ⟨rfl, rfl, rfl, Nat.le_refl _, fun _ _ _ => rfl⟩
theorem Moves.trans {F : Nat → Prop} {a b c : World} (h : Moves F a b) (k : Moves (Plus F a b) b c) : Moves F a c :=
  ⟨k.os.trans h.os, k.tape.trans h.tape, k.output.trans h.output, Nat.le_trans h.size k.size, fun i hi hF => (k.block i (Nat.lt_of_lt_of_le hi h.size) (fun hp => hp.elim hF (fun e => by omega))).trans (h.block i hi hF)⟩
theorem Moves.trans' {F : Nat → Prop} {a b c : World} (h : Moves F a b) (k : Moves F b c) : Moves F a c :=
  ⟨k.os.trans h.os, k.tape.trans h.tape, k.output.trans h.output, Nat.le_trans h.size k.size, fun i hi hF => (k.block i (Nat.lt_of_lt_of_le hi h.size) hF).trans (h.block i hi hF)⟩
theorem Moves.store {F : Nat → Prop} {w w' : World} (h : Moves F w w') (a : Addr) (v : Value) (hF : F a.block) : Moves F w (w'.setCell a v) :=
  ⟨h.os, h.tape, h.output, by have := h.size; simpa [World.setCell] using this, fun k hk hn => (Below.heap_setCell w' a v k (fun e => hn (e ▸ hF))).trans (h.block k hk hn)⟩
theorem Moves.grown {F : Nat → Prop} {w w' w1 : World} {ob : Option Nat} (h : Moves F w w') (hg : w'.grownBy w1 ob) (hF : ∀ k, ob = some k → F k ∨ w.heap.size ≤ k) : Moves F w w1 :=
  ⟨hg.os.trans h.os, hg.tape.trans h.tape, hg.output.trans h.output, Nat.le_trans h.size hg.size, fun k hk hn => (hg.block k (Nat.lt_of_lt_of_le hk h.size) (fun e => (hF k e.symm).elim hn (fun e => by omega))).trans (h.block k hk hn)⟩
theorem Moves.below {F : Nat → Prop} {w w' w1 : World} (h : Moves F w w') (hb : Below w.heap.size w' w1) : Moves F w w1 :=
  ⟨hb.os.trans h.os, hb.tape.trans h.tape, hb.output.trans h.output, Nat.le_trans h.size hb.size, fun k hk hn => (hb.block k hk).trans (h.block k hk hn)⟩
/-- A schedule that owns no other blocks than F. -/
def Sch (w : World) (base g : Nat) (F : Nat → Prop) (S : Sd) : Prop :=
  (∀ k, F k → base ≤ k ∧ k < w.heap.size) ∧ ∃ bT bM bR vs us, IsS w base g bT bM bR vs us S ∧ F g ∧ F bT ∧ F bM ∧ F bR ∧ ∀ x ∈ vs ++ us, ∀ k, x.1 = some k → F k
def Next (w : World) (base g : Nat) (F : Nat → Prop) (S : Sd) (w' : World) : Prop := Sch w' base g (Plus F w w') S ∧ Moves F w w'
theorem Sch.next {w w' : World} {base g : Nat} {F : Nat → Prop} {S S' : Sd} (h : Sch w base g F S) (hb : base ≤ w.heap.size) {bT bM bR : Nat} {vs us : List (Option Nat × Value)} (h1 : IsS w' base g bT bM bR vs us S') (hm : Moves F w w')
    (hF : F g ∧ F bT ∧ F bM ∧ F bR) (hx : ∀ x ∈ vs ++ us, ∀ k, x.1 = some k → F k ∨ w.heap.size ≤ k) : Next w base g F S' w' :=
  ⟨⟨fun k hk => hk.elim (fun hk => ⟨(h.1 k hk).1, Nat.lt_of_lt_of_le (h.1 k hk).2 hm.size⟩) (fun hk => ⟨Nat.le_trans hb hk.1, hk.2⟩), bT, bM, bR, vs, us, h1, .inl hF.1, .inl hF.2.1, .inl hF.2.2.1, .inl hF.2.2.2, fun x hxm k hk => (hx x hxm k hk).elim .inl (fun e => .inr ⟨e, (h1.ltV x hxm k hk).2⟩)⟩, hm⟩
end Go.Proofs.Ytcfkmhmgappckaa
