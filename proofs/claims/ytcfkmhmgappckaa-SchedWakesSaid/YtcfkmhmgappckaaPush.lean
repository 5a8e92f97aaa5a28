/- One more behind a row, wherever the row lies in its block. No condition but on size. -/
import Derived.Test.YtcfkmhmgappckaaStore
import Derived.ArgAppend
namespace Go.Proofs.Ytcfkmhmgappckaa
open Go.RowKit Go.Proofs.Ytcfkmhmgappckaa.Sc Go.Proofs.Ytcfkmhmgappckaa.PAll Go.Proofs.YtcfkmhmgappckaaW.PrintWords Go.Proofs.YtcfkmhmgappckaaW.PrintLast Go.Proofs.YtcfkmhmgappckaaW.PrintMore

theorem RowIn.flat_len {w : World} {base t sz : Nat} {ob : Option Nat} {v : Value} {l : List (List Value)} (h : RowIn w base t sz ob v l) : l.flatten.length = l.length * sz := by
  have := h.1
  clear h
  induction l with
  | nil => simp
  | cons c l ih =>
    rw [List.flatten_cons, List.length_append, this c (by simp), ih (fun d hd => this d (by simp [hd])), List.length_cons, Nat.add_mul, Nat.one_mul, Nat.add_comm]
theorem RowIn.of_owns {w : World} {base t sz : Nat} {v : Value} {l : List (List Value)} (hl : ∀ c ∈ l, c.length = sz) (hn : 0 < l.length) (h : w.ownsRow base t sz v l.length l.flatten) : ∃ b, base ≤ b ∧ RowIn w base t sz (some b) v l := by
  rcases h.2 with ⟨_, h0⟩ | ⟨g, cap, cur, hv, hb, hc, h1, h2, h3, h4⟩
  · omega
  · refine ⟨g, hb, hl, .inr ⟨g, 0, cap, cur, rfl, by rw [Nat.zero_mul]; exact hv, hb, hc, h1, by rw [Nat.zero_add, h3]; exact Nat.le_refl _, fun i hi => ?_⟩⟩
    rw [← h4, List.getElem?_take_of_lt hi]
    simp
theorem grown_any {w w1 : World} (h : w.grownBy w1 none) (row : Option Nat) : w.grownBy w1 row := ⟨h.os, h.tape, h.output, h.size, fun k hk _ => h.block k hk (by simp)⟩
theorem grown_cells (w : World) (b o : Nat) (vs : List Value) : w.grownBy (w.setCells b o vs) (some b) := by
  obtain ⟨h1, h2, h3, h4⟩ := setCells_same b vs o w
  exact ⟨h1, h2, h3, by rw [h4]; exact Nat.le_refl _, fun k _ hk => setCells_far vs o k (fun e => hk (by rw [e]))⟩
theorem RowIn.slice {w : World} {base t sz : Nat} {ob : Option Nat} {v : Value} {l : List (List Value)} (h : RowIn w base t sz ob v l) : ∃ A n c, v = .slice A n c := by
  rcases h.2 with ⟨_, e, _⟩ | ⟨b, off, cap, cs, _, e, _⟩
  · exact ⟨_, _, _, e⟩
  · exact ⟨_, _, _, e⟩
/-- 'append(row, x)', both arms, as a run. -/
theorem run_push (w : World) (t ty e : TypeId) (i : TypeInfo) (z : Value) (size bytes : Nat) (h1 : Try.prog.underlying t = some (.slice e)) (h2 : Try.prog.info? e = some i) (h3 : i.zero = some z) (h4 : i.size = size) (h5 : i.bytes = bytes) (h6 : z.cells.size = size) (h7 : 0 < size)
    {base : Nat} {ob : Option Nat} {v : Value} {l : List (List Value)} (hR : RowIn w base e size ob v l)
    (ad : Addr) (c : Nat) (news : List Value) (hn : news.length = size) (hc : ∀ j u, news[j]? = some u → w.cell? (ad.add j) = some u) (h1c : ∀ u ∈ news, u.oneCell' = true)
    (b1 : l.length + 1 ≤ maxLen) (b2 : (l.length + 1) * bytes ≤ 140737488355328) (hbase : base ≤ w.heap.size) :
    ∃ ob' v' w', (Builtin.append_ #[t, t] ty #[v, .slice (some ad) 1 c]).run Try.prog w = .ok v' w' ∧ RowIn w' base e size ob' v' (l ++ [news]) ∧ w.grownBy w' ob ∧ (ob' = ob ∨ ∃ k, ob' = some k ∧ w.heap.size ≤ k) := by
  have hall : ∀ d ∈ l ++ [news], d.length = size := by
    intro d hd
    rcases List.mem_append.1 hd with hd | hd
    · exact hR.1 d hd
    · obtain rfl : d = news := by simpa using hd
      exact hn
  have hfl := hR.flat_len
  have hgrow : ∀ v' w', w'.ownsRow w.heap.size e size v' (l.length + 1) (l.flatten ++ news) → w.grownBy w' none → ∃ ob', RowIn w' base e size ob' v' (l ++ [news]) ∧ w.grownBy w' ob ∧ (ob' = ob ∨ ∃ k, ob' = some k ∧ w.heap.size ≤ k) := by
    intro v' w' ho hgr
    have ho' : w'.ownsRow w.heap.size e size v' (l ++ [news]).length (l ++ [news]).flatten := by simpa using ho
    obtain ⟨b, hb, hr⟩ := RowIn.of_owns hall (by simp) ho'
    refine ⟨some b, ⟨hr.1, ?_⟩, grown_any hgr ob, .inr ⟨b, rfl, hb⟩⟩
    rcases hr.2 with ⟨e1, _⟩ | ⟨b2', off, cap, cs, e1, e2, e3, e4⟩
    · cases e1
    · exact .inr ⟨b2', off, cap, cs, e1, e2, by omega, e4⟩
  have hone : news.length = 1 * size := by rw [hn, Nat.one_mul]
  rcases hR.2 with ⟨rfl, rfl, rfl⟩ | ⟨b, off, cap, cs, rfl, rfl, hb, hcs, hle, hsz, hcell⟩
  · obtain ⟨v', w', hrun, r1, r2, _⟩ := run_append_own (P := Try.prog) w w.heap.size t ty e i z size bytes h1 h2 h3 h4 h5 h6 h7 (.slice none 0 0) 0 [] (World.ownsRow_nil w _ e size) ad 1 c news hone hc h1c (by simpa using b1) (by simpa using b2) (Nat.le_refl _)
    obtain ⟨ob', q⟩ := hgrow v' w' (by simpa using r1) r2
    exact ⟨ob', v', w', by simpa using hrun, q⟩
  · have hmul : (off + l.length) * size = off * size + l.length * size := Nat.add_mul _ _ _
    by_cases hr : l.length + 1 ≤ cap
    · have h8 : (off + (l.length + 1)) * size ≤ (off + cap) * size := Nat.mul_le_mul_right _ (by omega)
      have h9 : (off + (l.length + 1)) * size = off * size + l.length * size + size := by rw [Nat.add_mul, Nat.add_mul, Nat.one_mul]; omega
      have h11 : off * size + l.length * size ≤ cs.toList.length := by
        have h12 : cs.toList.length = cs.size := Array.length_toList (xs := cs)
        omega
      subst h4
      have hrun := run_append_room_cells (P := Try.prog) w t ty e i h1 h2 b (off * i.size) l.length cap ad 1 c news hone hc h1c hr (fun j hj => by
        have h10 : off * i.size + l.length * i.size + j < cs.size := by omega
        simp [World.cell?, hcs, h10]) (fun j hj => by simp [World.frozen?, hcs])
      obtain ⟨cur', q1, q2, q3⟩ := setCells_row news (off * i.size + l.length * i.size) w cs hcs (by omega)
      refine ⟨some b, _, _, hrun, ⟨hall, .inr ⟨b, off, cap, cur', rfl, by simp, hb, q1, by simp; omega, by omega, fun k hk => ?_⟩⟩, grown_cells w b _ news, .inl rfl⟩
      have hk2 : k < l.length * i.size + i.size := by rw [List.length_append, List.length_singleton, Nat.add_mul, Nat.one_mul] at hk; exact hk
      have hfe : (l ++ [news]).flatten = l.flatten ++ news := by simp
      rw [← Array.getElem?_toList, q3, hfe]
      have htl : (cs.toList.take (off * i.size + l.length * i.size)).length = off * i.size + l.length * i.size := by rw [List.length_take]; exact Nat.min_eq_left h11
      rw [List.append_assoc]
      by_cases hk3 : k < l.length * i.size
      · have hk4 : k < l.flatten.length := by rw [hfl]; exact hk3
        rw [List.getElem?_append_left (l₁ := l.flatten) hk4, List.getElem?_append_left (l₁ := cs.toList.take (off * i.size + l.length * i.size)) (by rw [htl]; omega), List.getElem?_take_of_lt (by omega), Array.getElem?_toList]
        exact hcell k hk3
      · have hk4 : l.flatten.length ≤ k := by rw [hfl]; omega
        rw [List.getElem?_append_right (l₁ := l.flatten) hk4, List.getElem?_append_right (l₁ := cs.toList.take (off * i.size + l.length * i.size)) (by rw [htl]; omega), htl, hfl, List.getElem?_append_left (l₁ := news) (by omega)]
        congr 1
        omega
    · obtain ⟨v', w', hrun, r1, r2⟩ := run_append_arg_grows (P := Try.prog) w t ty e i z size bytes h1 h2 h3 h4 h5 h6 h7 ⟨b, off * size, none⟩ l.length cap l.flatten hfl (fun j u hu => by
        have hj : j < l.length * size := by rw [← hfl]; exact (List.getElem?_eq_some_iff.1 hu).1
        have := hcell j hj
        rw [Addr.add_lit]
        simp [World.cell?, hcs, this, hu]) ad 1 c news hone hc (by omega) b1 b2
      obtain ⟨ob', q⟩ := hgrow v' w' r1 r2
      exact ⟨ob', v', w', hrun, q⟩
theorem wpList_push {ops : Array Oper} {rest : List Oper} {o : Oper} {a : Act} {Q : Exit → Act → World → Prop} (w : World)
    (hg : o.guard = none) (s x : Operand) (t : TypeId) (hop : o.op = Op.call { callee := Callee.builtin Builtin.append, args := #[s, x], argTypes := #[t, t] })
    (e : TypeId) (i : TypeInfo) (z : Value) (size bytes : Nat) (h1 : Try.prog.underlying t = some (.slice e)) (h2 : Try.prog.info? e = some i) (h3 : i.zero = some z) (h4 : i.size = size) (h5 : i.bytes = bytes) (h6 : z.cells.size = size) (h7 : 0 < size)
    {base : Nat} {ob : Option Nat} {v : Value} {l : List (List Value)} (hR : RowIn w base e size ob v l) (hs : a.eval s = v)
    (ad : Addr) (c : Nat) (news : List Value) (hx : a.eval x = .slice (some ad) 1 c) (hn : news.length = size) (hc : ∀ j u, news[j]? = some u → w.cell? (ad.add j) = some u) (h1c : ∀ u ∈ news, u.oneCell' = true)
    (b1 : l.length + 1 ≤ maxLen) (b2 : (l.length + 1) * bytes ≤ 140737488355328) (hbase : base ≤ w.heap.size)
    (K : ∀ ob' A' n' c' w', RowIn w' base e size ob' (.slice A' n' c') (l ++ [news]) → w.grownBy w' ob → (ob' = ob ∨ ∃ k, ob' = some k ∧ w.heap.size ≤ k) → wpList Try.prog ops Q rest (a.put o.dst (.slice A' n' c')) w') :
    wpList Try.prog ops Q (o :: rest) a w := by
  obtain ⟨ob', v', w', hrun, q1, q2, q3⟩ := run_push w t o.type e i z size bytes h1 h2 h3 h4 h5 h6 h7 hR ad c news hn hc h1c b1 b2 hbase
  obtain ⟨A', n', c', rfl⟩ := q1.slice
  refine wpList_plain hg fun K' hK' => ?_
  unfold Oper.wp
  simp [execOp, hop, resolve, invoke, builtin, hs, hx, hrun, Result.andThen]
  exact hK' _ _ (K ob' A' n' c' w' q1 q2 q3)
theorem step_push {ops : Array Oper} {o : Oper} {a : Act} {w : World} {K : Act → World → Prop} {Q : Exit → Act → World → Prop} {E : Prop}
    (hg : o.guard = none) (s x : Operand) (t : TypeId) (hop : o.op = Op.call { callee := Callee.builtin Builtin.append, args := #[s, x], argTypes := #[t, t] })
    (e : TypeId) (i : TypeInfo) (z : Value) (size bytes : Nat) (h1 : Try.prog.underlying t = some (.slice e)) (h2 : Try.prog.info? e = some i) (h3 : i.zero = some z) (h4 : i.size = size) (h5 : i.bytes = bytes) (h6 : z.cells.size = size) (h7 : 0 < size)
    {base : Nat} {ob : Option Nat} {v : Value} {l : List (List Value)} (hR : RowIn w base e size ob v l) (hs : a.eval s = v)
    (ad : Addr) (c : Nat) (news : List Value) (hx : a.eval x = .slice (some ad) 1 c) (hn : news.length = size) (hc : ∀ j u, news[j]? = some u → w.cell? (ad.add j) = some u) (h1c : ∀ u ∈ news, u.oneCell' = true)
    (b1 : l.length + 1 ≤ maxLen) (b2 : (l.length + 1) * bytes ≤ 140737488355328) (hbase : base ≤ w.heap.size)
    (hK : ∀ ob' A' n' c' w', RowIn w' base e size ob' (.slice A' n' c') (l ++ [news]) → w.grownBy w' ob → (ob' = ob ∨ ∃ k, ob' = some k ∧ w.heap.size ≤ k) → K (a.put o.dst (.slice A' n' c')) w') :
    if Region.wanted o (yielded ops a.tmps) = true then Oper.wp Try.prog o a w K Q else E := by
  obtain ⟨ob', v', w', hrun, q1, q2, q3⟩ := run_push w t o.type e i z size bytes h1 h2 h3 h4 h5 h6 h7 hR ad c news hn hc h1c b1 b2 hbase
  obtain ⟨A', n', c', rfl⟩ := q1.slice
  have hw : Region.wanted o (yielded ops a.tmps) = true := by simp [Region.wanted, hg]
  rw [if_pos hw]
  unfold Oper.wp
  simp [execOp, hop, resolve, invoke, builtin, hs, hx, hrun, Result.andThen]
  exact hK ob' A' n' c' w' q1 q2 q3
end Go.Proofs.Ytcfkmhmgappckaa
