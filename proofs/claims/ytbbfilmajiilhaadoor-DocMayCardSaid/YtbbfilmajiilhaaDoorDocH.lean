/- The document's Phrase, Places, Terms, Weight, and doc.Phrase: what they tell. Condition: few bytes, names each once. -/
import Derived.Test.YtbbfilmajiilhaaDoorDocG
import Derived.Test.YtbbfilmajiilhaaDoorBnd0
import Derived.Test.YtbbfilmajiilhaaDoorPAllx8
set_option linter.unusedVariables false
set_option linter.unusedSimpArgs false
namespace Go.Proofs.YtbbfilmajiilhaaDoor
open Go.RowKit Go.Proofs.YtbbfilmajiilhaaDoor.PAll Go.Proofs.YtbbfilmajiilhaaDoorW.PrintWords Go.Proofs.YtbbfilmajiilhaaDoorW.PrintLast

theorem rdS_lt (l : List ByteArray) (i : Nat) (h : i < l.length) : rdOf ByteArray.empty l (i : Int) = l[i] := rdS_nat l i h
/-! ### are texts the same? -/
theorem take_eq_step {a b : List ByteArray} (i : Nat) (ha : i < a.length) (hb : i < b.length) : (a.drop i = b.drop i) ↔ (a[i] = b[i] ∧ a.drop (i + 1) = b.drop (i + 1)) := by
  rw [List.drop_eq_getElem_cons ha, List.drop_eq_getElem_cons hb, List.cons.injEq]
theorem equal_loop (a b : List ByteArray) (hl : a.length = b.length) (hn : a.length ≤ 1000000000000) (d : Nat) : ∀ i : Nat, i + d = a.length → Ev (fun k => slices_Equal_string_string.l0 k a b (a.length : Int) (i : Int)) (decide (a.drop i = b.drop i)) := by
  induction d with
  | zero =>
    intro i hi
    refine Ev.step (fun k => by rw [slices_Equal_string_string.l0]) (Ev.neg (by omega) (Ev.ret ?_))
    rw [List.drop_eq_nil_of_le (by omega), List.drop_eq_nil_of_le (by omega)]; simp
  | succ d ih =>
    intro i hi
    have h1 := take_eq_step i (show i < a.length by omega) (show i < b.length by omega)
    refine Ev.step (fun k => by rw [slices_Equal_string_string.l0, rdS_lt a i (by omega), rdS_lt b i (by omega), wrap_nat i (by omega)]) (Ev.pos (by omega) (Ev.pos (by omega) (Ev.pos (by omega) (Ev.pos (by omega) ?_))))
    by_cases he : a[i] = b[i]
    · refine Ev.pos (bytes_ne.2 he) ?_
      have := ih (i + 1) (by omega)
      rw [show decide (a.drop i = b.drop i) = decide (a.drop (i + 1) = b.drop (i + 1)) from by rw [decide_eq_decide, h1]; exact ⟨fun h => h.2, fun h => ⟨he, h⟩⟩]
      exact this
    · refine Ev.neg (fun h => he (bytes_ne.1 h)) (Ev.ret ?_)
      rw [eq_comm, decide_eq_false_iff_not, h1]
      exact fun h => he h.1
theorem equal_ev (a b : List ByteArray) (hn : a.length ≤ 1000000000000) : Ev (fun k => slices_Equal_string_string.f k a b) (decide (a = b)) := by
  unfold slices_Equal_string_string.f
  by_cases hl : a.length = b.length
  · exact Ev.pos (by omega) (equal_loop a b hl hn a.length 0 (by omega))
  · refine Ev.neg (by omega) (Ev.ret ?_)
    rw [eq_comm, decide_eq_false_iff_not]
    exact fun h => hl (by rw [h])
/-! ### phrases -/
/-- At how many places words begin to stand side by side. -/
def phr (ws : List ByteArray) : List ByteArray → Nat
  | [] => 0
  | x :: L => (if (x :: L).take ws.length = ws then 1 else 0) + phr ws L
theorem phr_cons (ws : List ByteArray) (x : ByteArray) (L : List ByteArray) : phr ws (x :: L) = (if (x :: L).take ws.length = ws then 1 else 0) + phr ws L := rfl
theorem phr_short (ws : List ByteArray) : ∀ L : List ByteArray, L.length < ws.length → phr ws L = 0
  | [], _ => rfl
  | x :: L, h => by
    unfold phr
    rw [phr_short ws L (by simp at h; omega), if_neg]
    intro e
    have := congrArg List.length e
    rw [List.length_take] at this
    omega
theorem phr_le (ws : List ByteArray) : ∀ L : List ByteArray, phr ws L ≤ L.length
  | [] => Nat.le_refl _
  | x :: L => by
    unfold phr
    have := phr_le ws L
    rw [List.length_cons]
    split <;> omega
def phrD (l : List Fd) (a : ByteArray) (ws : List ByteArray) : Nat := (l.map (fun f => if f.f0 = a ∧ ws ≠ [] then phr ws (wordsT f.f1) else 0)).sum
theorem phrD_take (l : List Fd) (a : ByteArray) (ws : List ByteArray) (i : Nat) (h : i < l.length) : phrD (l.take (i + 1)) a ws = phrD (l.take i) a ws + (if l[i].f0 = a ∧ ws ≠ [] then phr ws (wordsT l[i].f1) else 0) := by
  unfold phrD
  rw [List.take_succ_eq_append_getElem h, List.map_append, List.sum_append]
  simp
theorem phrD_le (l : List Fd) (a : ByteArray) (ws : List ByteArray) (hs : ∀ f ∈ l, f.f1.size ≤ 1000000) : phrD l a ws ≤ l.length * 1000001 := by
  induction l with
  | nil => simp [phrD]
  | cons f l ih =>
    have h1 := ih (fun g hg => hs g (List.mem_cons_of_mem _ hg))
    have h2 := phr_le ws (wordsT f.f1)
    have h3 := wordsT_len f.f1
    have h4 := hs f List.mem_cons_self
    have e : phrD (f :: l) a ws = (if f.f0 = a ∧ ws ≠ [] then phr ws (wordsT f.f1) else 0) + phrD l a ws := by unfold phrD; rw [List.map_cons, List.sum_cons]
    rw [e, List.length_cons]
    split <;> omega
theorem phrD_loop (id : Int) (l : List Fd) (a : ByteArray) (ws : List ByteArray) (h : docOk l) (hw : ws.length ≤ 1000000000) (d : Nat) : ∀ i : Nat, i + d = l.length → Ev (fun k => doc_Phrase.l0 k a ws ((phrD (l.take i) a ws : Nat) : Int) l (l.length : Int) (i : Int)) ((phrD l a ws : Nat) : Int) := by
  induction d with
  | zero =>
    intro i hi
    refine Ev.step (fun k => by rw [doc_Phrase.l0]) (Ev.neg (by omega) (Ev.ret ?_))
    rw [List.take_of_length_le (by omega)]
  | succ d ih =>
    intro i hi
    have hil : i < l.length := by have := h.1; omega
    have hl3 := h.1
    have hrd := rdF_nat l i hil
    have hg := ih (i + 1) (by omega)
    rw [phrD_take l a ws i hil] at hg
    have hbd := phrD_le (l.take i) a ws (fun f hf => h.2 f (List.mem_of_mem_take hf))
    rw [List.length_take] at hbd
    have hsz := h.2 _ (List.getElem_mem hil)
    have hwl := wordsT_len l[i].f1
    -- the skip
    have skip : ¬ (l[i].f0 = a ∧ ws ≠ []) → ∀ f0 f1, Ev (fun k => doc_Phrase.j1 k a ws ((phrD (l.take i) a ws : Nat) : Int) l (l.length : Int) (i : Int) true f0 f1) ((phrD l a ws : Nat) : Int) := by
      intro hn f0 f1
      rw [if_neg hn, Nat.add_zero] at hg
      exact Ev.step (fun k => by rw [doc_Phrase.j1, wrap_nat i (by omega)]) (Ev.pos rfl hg)
    refine Ev.step (fun k => by rw [doc_Phrase.l0, hrd]) (Ev.pos (by omega) (Ev.pos (by omega) (Ev.pos (by omega) ?_)))
    by_cases he : l[i].f0 = a
    · refine Ev.pos (bytes_ne.2 he) ?_
      by_cases h0 : ws = []
      · have hb : ((ws.length : Int) == 0) = true := by rw [h0]; rfl
        rw [hb]
        exact skip (fun q => q.2 h0) _ _
      · have hpos := List.length_pos_iff.2 h0
        have hb : ((ws.length : Int) == 0) = false := by rw [beq_eq_false_iff_ne]; omega
        rw [hb]
        refine Ev.step (fun k => by rw [doc_Phrase.j1]) (Ev.neg (by decide) ?_)
        refine Ev.const (a := wordsT l[i].f1) (show word_Words.f l[i].f1 = some (wordsT l[i].f1) from if_pos (by omega)) ?_
        rw [if_pos ⟨he, h0⟩] at hg
        have inner : ∀ (c : Nat) (L : List ByteArray) (n : Nat), L.length = c → n + L.length ≤ 10000000000 → Ev (fun k => doc_Phrase.l0 k a ws ((n + phr ws L : Nat) : Int) l (l.length : Int) ((i + 1 : Nat) : Int)) ((phrD l a ws : Nat) : Int) → Ev (fun k => doc_Phrase.l1 k a ws (n : Int) L l (l.length : Int) (i : Int)) ((phrD l a ws : Nat) : Int) := by
          intro c
          induction c with
          | zero =>
            intro L n hL hnb hgo
            rw [phr_short ws L (by omega), Nat.add_zero] at hgo
            exact Ev.step (fun k => by rw [doc_Phrase.l1, wrap_nat i (by omega)]) (Ev.neg (by omega) hgo)
          | succ c ihc =>
            intro L n hL hnb hgo
            by_cases hsh : L.length < ws.length
            · rw [phr_short ws L hsh, Nat.add_zero] at hgo
              exact Ev.step (fun k => by rw [doc_Phrase.l1, wrap_nat i (by omega)]) (Ev.neg (by omega) hgo)
            · match L, hL with
              | x :: L, hL =>
                have hL' : L.length = c := by simpa using hL
                have e2 : (x :: L).drop (1 : Int).toNat = L := rfl
                refine Ev.step (fun k => by rw [doc_Phrase.l1, Int.toNat_natCast, e2]) (Ev.pos (by omega) (Ev.pos (by omega) (Ev.pos (by omega) (Ev.bind (equal_ev _ ws (by rw [List.length_take]; omega)) ?_))))
                rw [phr_cons] at hgo
                by_cases hq : (x :: L).take ws.length = ws
                · rw [if_pos hq, ← Nat.add_assoc] at hgo
                  refine Ev.pos (decide_eq_true hq) (Ev.pos (by rw [hL]; omega) ?_)
                  rw [wrap_nat n (by omega)]
                  exact ihc L (n + 1) hL' (by rw [List.length_cons] at hnb; omega) hgo
                · rw [if_neg hq, Nat.zero_add] at hgo
                  refine Ev.neg (by simpa using hq) (Ev.pos (by rw [hL]; omega) ?_)
                  exact ihc L n hL' (by rw [List.length_cons] at hnb; omega) hgo
        exact inner _ (wordsT l[i].f1) (phrD (l.take i) a ws) rfl (by omega) hg
    · refine Ev.neg (fun q => he (bytes_ne.1 q)) ?_
      exact skip (fun q => he q.1) _ _
theorem phrD_ev (id : Int) (l : List Fd) (a : ByteArray) (ws : List ByteArray) (h : docOk l) (hw : ws.length ≤ 1000000000) : Ev (fun k => doc_Phrase.f k id l a ws) ((phrD l a ws : Nat) : Int) := by
  unfold doc_Phrase.f
  have := phrD_loop id l a ws h hw l.length 0 (by omega)
  exact this

end Go.Proofs.YtbbfilmajiilhaaDoor
