/- SchedRows: what holds in each round. No condition. -/
import Derived.Test.YtcfkmhmgappckaaLives
import Derived.Test.YtcfkmhmgappckaaRowsP
namespace Go.Proofs.Ytcfkmhmgappckaa
open Go.RowKit Go.Proofs.Ytcfkmhmgappckaa.Sc Go.Proofs.Ytcfkmhmgappckaa.PAll Go.Proofs.YtcfkmhmgappckaaW.PrintWords Go.Proofs.YtcfkmhmgappckaaW.PrintLast Go.Proofs.YtcfkmhmgappckaaW.PrintMore

/-- A slice of whole numbers that came in. -/
def IsRow (k : IntKind) (w : World) (a : Option Addr) (len cap : Nat) (zs : List Int) : Prop :=
  (a = none ∧ len = 0 ∧ cap = 0 ∧ zs = []) ∨
  ∃ x, a = some x ∧ len ≤ cap ∧ cap ≤ maxLen ∧ zs.length = cap ∧ (∀ i, i < zs.length → w.cell? (x.add i) = some (.int k (zs.getD i 0))) ∧ ∀ n ∈ zs, (Lit.int k n).wf = true
theorem cell_keep {w w' : World} {B : Nat} {a : Addr} {v : Value} (hB : w.heap.size ≤ B) (hb : Below B w w') (h : w.cell? a = some v) : w'.cell? a = some v :=
  (hb.cell (Nat.lt_of_lt_of_le (World.block_lt_of_cell? w a h) hB)).trans h
theorem infoBoo : (Try.prog.info? 4).map (fun i => (i.zero, i.size, i.bytes)) = some (some (.bool false), 1, 1) := by kernel_rfl
theorem make_bools (n : Nat) (hn : n ≤ 1000) (w : World) : (Instr.makeSlice 25 (.int .i64 (n : Int)) (.int .i64 (n : Int))).run Try.prog w = .ok (.slice (some ⟨w.heap.size, 0, none⟩) n n) (w.alloc (.cells (Array.replicate n (.bool false)) 4 (0, 0))) := by
  obtain ⟨i0, hi, hz0, hz1, hz2⟩ := info_parts infoBoo
  have := run_make (P := Try.prog) w 25 4 i0 _ Try.underlying25 hi hz0 .i64 .i64 (n : Int) (n : Int) (by omega) (Int.le_refl _) (by rw [hz2]; omega) (by omega)
  rw [hz1, Int.toNat_natCast] at this
  rw [this, ← List.toArray_replicate, ← made_one]
  rfl
/-- Who has come, in memory. -/
def ComeIs (w : World) (b n : Nat) (r : List Nat) : Prop := w.heap[b]? = some (.cells ((List.range n).map fun t => Value.bool (decide (t ∈ r))).toArray 4 (0, 0))
structure RowsAt (w wr : World) (g bc n : Nat) (r : List Nat) (v : Value) (F : Nat → Prop) (ob : Option Nat) : Prop where
  S : Sch wr w.heap.size g F (stR n r 0)
  ok : Ok (stR n r 0) []
  R : RowIn wr w.heap.size 3 1 ob v (ints (Sc.nums r))
  C : ComeIs wr bc n r
  nF : ¬ F bc
  ob : ∀ b, ob = some b → b ≠ bc ∧ ¬ F b
  ge : w.heap.size ≤ bc
  B : Below w.heap.size w wr
def RowsSt (w wr : World) (g bc n : Nat) (r : List Nat) (v : Value) : Prop := ∃ F ob, RowsAt w wr g bc n r v F ob
theorem RowIn.val {w : World} {base t sz : Nat} {ob : Option Nat} {v : Value} {l : List (List Value)} (h : RowIn w base t sz ob v l) : ∃ A c, v = .slice A l.length c ∧ l.length ≤ c := by
  rcases h.2 with ⟨_, e, e2⟩ | ⟨b, off, cap, cs, _, e, _, _, h1, _⟩
  · subst e2; exact ⟨_, _, e, by simp⟩
  · exact ⟨_, _, e, h1⟩
theorem RowIn.at1 {w : World} {base t : Nat} {ob : Option Nat} {v : Value} {l : List (List Value)} (h : RowIn w base t 1 ob v l) (i : Nat) (hi : i < l.length) (x : Value) (hx : l[i]? = some [x]) : ∃ ad c, v = .slice (some ad) l.length c ∧ w.cell? (ad.add i) = some x := by
  rcases h.2 with ⟨_, e, e2⟩ | ⟨b, off, cap, cs, _, e, _, hc, h1, h2, h3⟩
  · subst e2; simp at hi
  · refine ⟨⟨b, off * 1, none⟩, cap, e, ?_⟩
    rw [Addr.add_lit]
    have := h3 i (by omega)
    unfold World.cell?
    simp only [hc]
    have hf : l.flatten[i]? = some x := by
      have hs : ∀ (l : List (List Value)), (∀ c ∈ l, c.length = 1) → ∀ j : Nat, l.flatten[j]? = (l[j]?).bind (fun c : List Value => c[0]?) := by
        intro l
        induction l with
        | nil => intro _ j; simp
        | cons c l ih =>
          intro hl j
          have hc := hl c (by simp)
          cases j with
          | zero => rw [List.flatten_cons, List.getElem?_append_left (by omega)]; simp
          | succ j => rw [List.flatten_cons, List.getElem?_append_right (by omega), hc, Nat.add_sub_cancel, ih (fun d hd => hl d (by simp [hd]))]; simp
      rw [hs l h.1 i, hx]; rfl
    rw [this, hf]; rfl
section
variable {w wr w2 w3 : World} {g bc n : Nat} {r : List Nat} {v : Value} {F : Nat → Prop} {ob : Option Nat}
theorem RowsAt.come (h : RowsAt w wr g bc n r v F ob) (t : Nat) (ht : t < n) : wr.cell? ⟨bc, t, none⟩ = some (.bool (decide (t ∈ r))) ∧ wr.frozen? ⟨bc, t, none⟩ = false := by
  have hC : wr.heap[bc]? = some (.cells ((List.range n).map fun t => Value.bool (decide (t ∈ r))).toArray 4 (0, 0)) := h.C
  constructor
  · simp [World.cell?, hC, ht]
  · simp [World.frozen?, hC]
theorem RowsAt.stored (h : RowsAt w wr g bc n r v F ob) (t : Nat) : Moves (fun k => k = bc) wr (wr.setCell ⟨bc, t, none⟩ (.bool true)) := (Moves.refl _ wr).store _ _ rfl
theorem RowsAt.S1 (h : RowsAt w wr g bc n r v F ob) (t : Nat) : Sch (wr.setCell ⟨bc, t, none⟩ (.bool true)) w.heap.size g F (stR n r 0) :=
  h.S.apart (h.stored t) (fun k hk e => h.nF (e ▸ hk))
theorem RowsAt.row (h : RowsAt w wr g bc n r v F ob) (t : Nat) (hN : Next (wr.setCell ⟨bc, t, none⟩ (.bool true)) w.heap.size g F (stR n (r ++ [t]) 0) w2) (o : Obj) : RowIn (w2.alloc o) w.heap.size 3 1 ob v (ints (Sc.nums r)) := by
  refine h.R.same (fun b hb => ?_)
  have hlt := (h.R.lt b hb).2
  have hs : b < (wr.setCell ⟨bc, t, none⟩ (.bool true)).heap.size := by simpa [World.setCell] using hlt
  rw [((Below.refl w2.heap.size w2).alloc (Nat.le_refl _) o).block b (Nat.lt_of_lt_of_le hs hN.2.size), hN.2.block b hs (h.ob b hb).2]
  exact Below.heap_setCell wr ⟨bc, t, none⟩ _ b (h.ob b hb).1
theorem RowsAt.step (h : RowsAt w wr g bc n r v F ob) (t : Nat) (htn : t < n) (htr : t ∉ r) (hN : Next (wr.setCell ⟨bc, t, none⟩ (.bool true)) w.heap.size g F (stR n (r ++ [t]) 0) w2) (o : Obj) {ob' : Option Nat} {v' : Value}
    (hR3 : RowIn w3 w.heap.size 3 1 ob' v' (ints (Sc.nums r) ++ [[.int .i64 (t : Int)]])) (hg : (w2.alloc o).grownBy w3 ob) (hob : ob' = ob ∨ ∃ k, ob' = some k ∧ w2.heap.size ≤ k) : RowsSt w w3 g bc n (r ++ [t]) v' := by
  have hlt : bc < wr.heap.size := heap_lt h.C
  have hsz : (wr.setCell ⟨bc, t, none⟩ (.bool true)).heap.size = wr.heap.size := by simp [World.setCell]
  have hM := hN.2
  have hob1 : ∀ b, ob = some b → b < wr.heap.size := fun b hb => (h.R.lt b hb).2
  have hmv : Moves (fun k => ob = some k) w2 w3 := ((Moves.refl _ w2).below ((Below.refl w2.heap.size w2).alloc (Nat.le_refl _) o)).grown hg (fun k hk => .inl hk)
  have hsize := hM.size
  rw [hsz] at hsize
  have hS3 := hN.1.apart hmv (fun k hk e => by
    rcases hk with hk | hk
    · exact (h.ob k e).2 hk
    · have := hob1 k e; rw [hsz] at hk; omega)
  have hnF : ¬ Plus F (wr.setCell ⟨bc, t, none⟩ (.bool true)) w2 bc := fun e => e.elim h.nF (fun e => by rw [hsz] at e; omega)
  refine ⟨_, ob', hS3, ?_, ?_, ?_, hnF, fun b hb => ?_, h.ge, ?_⟩
  · have := h.ok.lock (t : Int) 0
    rw [lock_stR n r t htn htr] at this
    exact this
  · have e : ints (Sc.nums r) ++ [[.int .i64 (t : Int)]] = ints (Sc.nums (r ++ [t])) := by simp [ints, Sc.nums]
    rw [← e]; exact hR3
  · have h1 : w3.heap[bc]? = (wr.setCell ⟨bc, t, none⟩ (.bool true)).heap[bc]? := by
      rw [hmv.block bc (by omega) (fun e => (h.ob bc e).1 rfl), hM.block bc (by rw [hsz]; exact hlt) h.nF]
    unfold ComeIs
    have hC : wr.heap[bc]? = some (.cells ((List.range n).map fun t => Value.bool (decide (t ∈ r))).toArray 4 (0, 0)) := h.C
    rw [h1]
    simp only [World.setCell, Array.getElem?_modify, hC, if_true, Option.map_some]
    congr 2
    apply Array.ext
    · simp
    · intro i h1 h2
      simp only [List.setIfInBounds_toArray, List.getElem_toArray, List.getElem_set, List.getElem_map, List.getElem_range, List.mem_append, List.mem_singleton]
      by_cases e : t = i
      · subst e; simp
      · simp [e, Ne.symm e]
  · rcases hob with e | ⟨k, e, hk⟩
    · rw [e] at hb
      refine ⟨(h.ob b hb).1, fun e2 => e2.elim (h.ob b hb).2 (fun e3 => ?_)⟩
      have := hob1 b hb; rw [hsz] at e3; omega
    · obtain rfl : k = b := Option.some.inj (e.symm.trans hb)
      refine ⟨by omega, fun e2 => ?_⟩
      have := (hN.1.1 k e2).2; omega
  · have hb1 : Below w.heap.size wr (wr.setCell ⟨bc, t, none⟩ (.bool true)) := (Below.refl _ _).setCell h.ge _
    have hb2 : Below w.heap.size (wr.setCell ⟨bc, t, none⟩ (.bool true)) w2 := ⟨hM.os, hM.tape, hM.output, hM.size, fun k hk => hM.block k (by rw [hsz]; exact Nat.lt_of_lt_of_le hk h.B.size) (fun e => by have := (h.S.1 k e).1; omega)⟩
    have hb3 : Below w.heap.size w2 w3 := ⟨hmv.os, hmv.tape, hmv.output, hmv.size, fun k hk => hmv.block k (by have := h.B.size; omega) (fun e => by have := (h.R.lt k e).1; omega)⟩
    exact ((h.B.trans hb1).trans hb2).trans hb3
end
theorem ready_len {w : World} {base g : Nat} {F : Nat → Prop} {S : Sd} (h : Sch w base g F S) (hn : S.T.length ≤ 1000) :
    Calls Try.prog 12 #[.pointer (some ⟨g, 0, none⟩)] w fun e w' => ∃ A c, e = .returned (.slice A (ready S).length c) ∧ Below w.heap.size w w' := by
  obtain ⟨_, bT, bM, bR, vs, us, h1, _⟩ := h
  refine (ready_any h1 hn).mono ?_
  rintro e w' ⟨v, rfl, hI, hb⟩
  have hl : ((ready S).map (Value.int .i64)).length = (ready S).length := by simp
  rcases hI.2 with ⟨e1, e2⟩ | ⟨b, cap, cur, e1, _⟩
  · rw [e1, e2]; exact ⟨_, _, rfl, hb⟩
  · exact ⟨_, _, by rw [e1], hb⟩
structure Rows2 (w wr : World) (g n : Nat) (r : List Nat) (j : Nat) (v : Value) (F : Nat → Prop) (ob : Option Nat) : Prop where
  S : Sch wr w.heap.size g F (stR n r j)
  ok : Ok (stR n r j) []
  R : RowIn wr w.heap.size 3 1 ob v (ints (Sc.nums r))
  ob : ∀ b, ob = some b → ¬ F b
  B : Below w.heap.size w wr
def Rows2St (w wr : World) (g n : Nat) (r : List Nat) (j : Nat) (v : Value) : Prop := ∃ F ob, Rows2 w wr g n r j v F ob
theorem RowsAt.two {w wr : World} {g bc n : Nat} {r : List Nat} {v : Value} {F : Nat → Prop} {ob : Option Nat} (h : RowsAt w wr g bc n r v F ob) : Rows2St w wr g n r 0 v :=
  ⟨F, ob, h.S, h.ok, h.R, fun b hb => (h.ob b hb).2, h.B⟩
theorem Rows2.notF {w wr : World} {g n : Nat} {r : List Nat} {j : Nat} {v : Value} {F : Nat → Prop} {ob : Option Nat} (h : Rows2 w wr g n r j v F ob) {ad : Addr} {m c m' c' : Nat} {A : Option Addr} (hv : v = .slice A m c) (hA : Value.slice A m c = .slice (some ad) m' c') : ¬ F ad.block := by
  rcases h.R.2 with ⟨_, e, _⟩ | ⟨b, off, cap, cs, e, ev, _⟩
  · rw [e] at hv; rw [← hv] at hA; simp at hA
  · rw [hv, hA] at ev
    obtain rfl : ad = ⟨b, off * 1, none⟩ := by simpa using (Value.slice.inj ev).1
    exact h.ob b e
theorem Rows2.step {w wr w5 w6 : World} {g n : Nat} {r : List Nat} {j : Nat} {v : Value} {F : Nat → Prop} {ob : Option Nat} (h : Rows2 w wr g n r j v F ob) (hn : r.Nodup) (hr : ∀ t ∈ r, t < n) (hj : j < r.length) (hb : Below wr.heap.size wr w5) (hN : Next w5 w.heap.size g F (stR n r (j + 1)) w6) : Rows2St w w6 g n r (j + 1) v := by
  have hN0 := Next.pre hb h.S.1 h.B.size hN
  refine ⟨_, ob, hN0.1, ?_, h.R.same (fun b hb2 => hN0.2.block b (h.R.lt b hb2).2 (h.ob b hb2)), fun b hb2 e => e.elim (h.ob b hb2) (fun e => by have := (h.R.lt b hb2).2; omega), ?_⟩
  · have := h.ok.unlock ((r[j] : Nat) : Int) 0
    rw [unlock_stR n r hn hr j hj] at this
    exact this
  · exact h.B.trans ⟨hN0.2.os, hN0.2.tape, hN0.2.output, hN0.2.size, fun k hk => hN0.2.block k (by have := h.B.size; omega) (fun e => by have := (h.S.1 k e).1; omega)⟩
end Go.Proofs.Ytcfkmhmgappckaa
