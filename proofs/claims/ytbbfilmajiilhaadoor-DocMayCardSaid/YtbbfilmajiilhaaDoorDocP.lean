/- The document's Name, Tokens, May, Words, Good: what they tell. Condition: few bytes. -/
import Derived.Test.YtbbfilmajiilhaaDoorWordRefs
import Derived.Test.YtbbfilmajiilhaaDoorBnd0
import Derived.Test.YtbbfilmajiilhaaDoorPAllx2
import Derived.Test.YtbbfilmajiilhaaDoorPAllx5
import Derived.Test.YtbbfilmajiilhaaDoorPAllx7
set_option linter.unusedVariables false
set_option linter.unusedSimpArgs false
namespace Go.Proofs.YtbbfilmajiilhaaDoor
open Go.RowKit Go.Proofs.YtbbfilmajiilhaaDoor.PAll Go.Proofs.YtbbfilmajiilhaaDoorW.PrintWords Go.Proofs.YtbbfilmajiilhaaDoorW.PrintLast

abbrev Fd := S24
theorem bt_at (s : ByteArray) (i : Nat) (h : i < s.data.toList.length) : bt s (i : Int) = ((s.data.toList[i]).toNat : Int) := by
  rw [bt_byt]; unfold byt; rw [List.getD_eq_getElem?_getD, List.getElem?_eq_getElem h]; rfl
theorem rdF_nat (l : List Fd) (i : Nat) (h : i < l.length) : rd_T24 l (i : Int) = l[i] := by unfold rd_T24; rw [Int.toNat_natCast, List.getD_eq_getElem?_getD, List.getElem?_eq_getElem h]; rfl
theorem wrap_nat (n : Nat) (h : n + 1 ≤ 9223372036854775807) : wrap64 ((n : Int) + 1) = ((n + 1 : Nat) : Int) := by rw [wrap_small _ (by omega)]; push_cast; rfl

theorem nat0 (i : Nat) : ((0 : Int) ≤ (i : Int)) = True := eq_true (by omega)

/-! ### Name -/
def lowB (c : UInt8) : Bool := decide (97 ≤ c.toNat) && decide (c.toNat ≤ 122)
theorem lowB_1 {c : UInt8} (h : c.toNat < 97) : lowB c = false := by unfold lowB; simp; omega
theorem lowB_2 {c : UInt8} (h : 122 < c.toNat) : lowB c = false := by unfold lowB; simp; omega
theorem lowB_3 {c : UInt8} (h : ¬ c.toNat < 97) (h2 : ¬ 122 < c.toNat) : lowB c = true := by unfold lowB; simp; omega
def nameB (s : ByteArray) : Bool := s.data.toList.all lowB && (decide (1 ≤ s.size) && decide (s.size ≤ 12))
theorem name_loop (s : ByteArray) (hs : s.size ≤ 9223372036854775807) (d : Nat) : ∀ i : Nat, i + d = s.data.toList.length → Ev (fun k => concordanceref08_Name.l0 k s (i : Int)) ((s.data.toList.drop i).all lowB && (decide (1 ≤ s.size) && decide (s.size ≤ 12))) := by
  induction d with
  | zero =>
    intro i hi
    have h1 : ((i : Int) < (s.size : Int)) = False := eq_false (by rw [size_data] at hi; omega)
    refine Ev.step (fun k => by rw [concordanceref08_Name.l0]) ?_
    simp only [h1, if_false]
    rw [List.drop_eq_nil_of_le (by omega), List.all_nil, Bool.true_and]
    by_cases h2 : 1 ≤ s.size
    · refine Ev.pos (by omega) (Ev.ret ?_)
      rw [decide_eq_true h2, Bool.true_and, decide_eq_decide]; omega
    · refine Ev.neg (by omega) (Ev.ret ?_)
      rw [decide_eq_false h2]; rfl
  | succ d ih =>
    intro i hi
    have hl : i < s.data.toList.length := by omega
    have hg := ih (i + 1) (by omega)
    have h1 : ((i : Int) < (s.size : Int)) = True := eq_true (by rw [size_data] at hl; omega)
    refine Ev.step (fun k => by rw [concordanceref08_Name.l0, wrap_nat i (by rw [size_data] at hl; omega), bt_at s i hl]) ?_
    simp only [h1, nat0, if_true]
    rw [List.drop_eq_getElem_cons hl, List.all_cons]
    by_cases h2 : s.data.toList[i].toNat < 97
    · refine Ev.pos (by omega) (Ev.ret ?_)
      rw [lowB_1 h2]; rfl
    · refine Ev.neg (by omega) ?_
      by_cases h3 : s.data.toList[i].toNat > 122
      · refine Ev.pos (by omega) (Ev.ret ?_)
        rw [lowB_2 h3]; rfl
      · refine Ev.neg (by omega) ?_
        rw [lowB_3 h2 h3, Bool.true_and]
        exact hg
theorem name_ev (s : ByteArray) (hs : s.size ≤ 9223372036854775807) : Ev (fun k => concordanceref08_Name.f k s) (nameB s) := by
  unfold concordanceref08_Name.f
  exact name_loop s hs s.data.toList.length 0 (by omega)

/-! ### Tokens: either an error, or as many as words -/
theorem tok_loop (W : List ByteArray) (hW : W.length ≤ 1000000000) (d : Nat) : ∀ (i : Nat) (acc : List S59), i + d = W.length → acc.length = i → ∃ r, Ev (fun k => concordanceref02_Tokens.l0 k W acc (i : Int)) r ∧ (r.2 = 0 → r.1.length = W.length) ∧ r.1.length ≤ W.length := by
  induction d with
  | zero =>
    intro i acc hi ha
    refine ⟨(acc, 0), Ev.step (fun k => by rw [concordanceref02_Tokens.l0]) (Ev.neg (by omega) (Ev.ret rfl)), fun _ => by simp only; omega, by simp only; omega⟩
  | succ d ih =>
    intro i acc hi ha
    by_cases h2 : ((rdOf ByteArray.empty W (i : Int)).size : Int) > 30
    · exact ⟨_, Ev.step (fun k => by rw [concordanceref02_Tokens.l0]) (Ev.pos (by omega) (Ev.pos (by omega) (Ev.pos h2 (Ev.ret rfl)))), fun e => (by cases e), by simp⟩
    · by_cases h3 : (i : Int) ≥ 500
      · exact ⟨_, Ev.step (fun k => by rw [concordanceref02_Tokens.l0]) (Ev.pos (by omega) (Ev.pos (by omega) (Ev.neg h2 (Ev.pos h3 (Ev.ret rfl))))), fun e => (by cases e), by simp⟩
      · obtain ⟨r, hr, h4, h5⟩ := ih (i + 1) (acc ++ [⟨rdOf ByteArray.empty W (i : Int), (i : Int)⟩]) (by omega) (by simp; omega)
        exact ⟨r, Ev.step (fun k => by rw [concordanceref02_Tokens.l0, wrap_nat i (by omega)]) (Ev.pos (by omega) (Ev.pos (by omega) (Ev.neg h2 (Ev.neg h3 (Ev.pos (by omega) hr))))), h4, h5⟩
theorem tok_ev (s : ByteArray) (hs : s.size ≤ 100000000) : ∃ r, Ev (fun k => concordanceref02_Tokens.f k s) r ∧ (r.2 = 0 → r.1.length = (wordsT s).length) ∧ r.1.length ≤ (wordsT s).length := by
  have hl := wordsT_len s
  obtain ⟨r, h1, h2⟩ := tok_loop (wordsT s) (by omega) (wordsT s).length 0 [] (by omega) rfl
  refine ⟨r, ?_, h2⟩
  unfold concordanceref02_Tokens.f
  exact Ev.bind (rwords_ev s (by omega)) h1

/-! ### May: an error, or it is nice -/
def Nice (l : List Fd) : Prop := (∀ f ∈ l, nameB f.f0 = true) ∧ l.Pairwise (fun f g => f.f0 ≠ g.f0)
def Small (l : List Fd) : Prop := ∀ f ∈ l, f.f0.size ≤ 9223372036854775807 ∧ f.f1.size ≤ 40
theorem bytes_ne {a b : ByteArray} : a.toList = b.toList ↔ a = b := bytes_ext a b
theorem may_loop (id : Int) (l : List Fd) (hl : l.length ≤ 8) (hs : Small l) : ∀ (d i : Nat) (n : Nat), i + d = l.length → n ≤ 41 * i → Nice (l.take i) →
    (∃ e, Ev (fun k => concordanceref08_May.l0 k (n : Int) (i : Int) id l) e ∧ (e = 0 → Nice l)) := by
  intro d
  induction d with
  | zero =>
    intro i n hi hn hN
    rw [List.take_of_length_le (by omega)] at hN
    by_cases h : (n : Int) > 500
    · exact ⟨7, Ev.step (fun k => by rw [concordanceref08_May.l0]) (Ev.neg (by omega) (Ev.pos h (Ev.ret rfl))), fun e => (by cases e)⟩
    · exact ⟨0, Ev.step (fun k => by rw [concordanceref08_May.l0]) (Ev.neg (by omega) (Ev.neg h (Ev.ret rfl))), fun _ => hN⟩
  | succ d ih =>
    intro i n hi hn hN
    have hil : i < l.length := by omega
    have hsm := hs _ (List.getElem_mem hil)
    have hrd := rdF_nat l i hil
    have hnm := name_ev l[i].f0 hsm.1
    have hstep : ∀ e, Ev (fun k => (if nameB l[i].f0 = true then (concordanceref08_May.l1 k (n : Int) (i : Int) 0 id l) else (some 4))) e → Ev (fun k => concordanceref08_May.l0 k (n : Int) (i : Int) id l) e := by
      intro e he
      refine Ev.step (fun k => by rw [concordanceref08_May.l0, hrd]) (Ev.pos (by omega) (Ev.pos (by omega) (Ev.bind hnm he)))
    by_cases hb : nameB l[i].f0 = true
    · -- the inner loop
      have inner : ∀ (c m : Nat), m + c = i → (∀ q (hq : q < m) (hql : q < l.length), l[q].f0 ≠ l[i].f0) → ∃ e, Ev (fun k => concordanceref08_May.l1 k (n : Int) (i : Int) (m : Int) id l) e ∧ (e = 0 → Nice l) := by
        intro c
        induction c with
        | zero =>
          intro m hm hq
          obtain rfl : m = i := by omega
          obtain ⟨r, hr, h4, h5⟩ := tok_ev l[m].f1 (by have := hsm.2; omega)
          have hwl := wordsT_len l[m].f1
          have hgo : ∀ e, Ev (fun k => if r.2 = 0 then (concordanceref08_May.l0 k (wrap64 ((n : Int) + (r.1.length : Int))) (wrap64 ((m : Int) + 1)) id l) else (some r.2)) e → Ev (fun k => concordanceref08_May.l1 k (n : Int) (m : Int) (m : Int) id l) e := by
            intro e he
            refine Ev.step (fun k => by rw [concordanceref08_May.l1, hrd]) (Ev.neg (by omega) (Ev.pos (by omega) (Ev.pos (by omega) (Ev.bind hr he))))
          by_cases h0 : r.2 = 0
          · have hN2 : Nice (l.take (m + 1)) := by
              rw [List.take_succ_eq_append_getElem hil]
              refine ⟨fun f hf => ?_, List.pairwise_append.2 ⟨hN.2, List.pairwise_singleton _ _, fun f hf g hg => ?_⟩⟩
              · rcases List.mem_append.1 hf with hf | hf
                · exact hN.1 f hf
                · rw [List.mem_singleton.1 hf]; exact hb
              · rw [List.mem_singleton.1 hg]
                obtain ⟨q, hq1, rfl⟩ := List.mem_iff_getElem.1 hf
                rw [List.length_take] at hq1
                rw [List.getElem_take]
                exact hq q (by omega) (by omega)
            obtain ⟨e, he, h6⟩ := ih (m + 1) (n + r.1.length) (by omega) (by have := hsm.2; omega) hN2
            refine ⟨e, hgo e (Ev.pos h0 ?_), h6⟩
            have e1 : wrap64 ((n : Int) + (r.1.length : Int)) = ((n + r.1.length : Nat) : Int) := by rw [wrap_small _ (by have := hsm.2; omega)]; push_cast; rfl
            rw [e1, wrap_nat m (by omega)]
            exact he
          · exact ⟨r.2, hgo _ (Ev.neg h0 (Ev.ret rfl)), fun e => (h0 e).elim⟩
        | succ c ihc =>
          intro m hm hq
          have hml : m < l.length := by omega
          have hrm := rdF_nat l m hml
          by_cases heq : l[m].f0 = l[i].f0
          · exact ⟨5, Ev.step (fun k => by rw [concordanceref08_May.l1, hrd, hrm]) (Ev.pos (by omega) (Ev.pos (by omega) (Ev.pos (by omega) (Ev.pos (by omega) (Ev.pos (by omega) (Ev.pos (bytes_ne.2 heq) (Ev.ret rfl))))))), fun e => (by cases e)⟩
          · obtain ⟨e, he, h6⟩ := ihc (m + 1) (by omega) (fun q hq2 hql => by
              rcases Nat.lt_succ_iff_lt_or_eq.1 hq2 with h | h
              · exact hq q h hql
              · subst h; exact heq)
            refine ⟨e, Ev.step (fun k => by rw [concordanceref08_May.l1, hrd, hrm, wrap_nat m (by omega)]) (Ev.pos (by omega) (Ev.pos (by omega) (Ev.pos (by omega) (Ev.pos (by omega) (Ev.pos (by omega) (Ev.neg (fun h => heq (bytes_ne.1 h)) he)))))), h6⟩
      obtain ⟨e, he, h6⟩ := inner i 0 (by omega) (fun q hq _ => by omega)
      exact ⟨e, hstep e (Ev.pos hb he), h6⟩
    · exact ⟨4, hstep 4 (Ev.neg hb (Ev.ret rfl)), fun e => (by cases e)⟩
theorem may_ev (id : Int) (l : List Fd) (hs : Small l) : ∃ e, Ev (fun k => concordanceref08_May.f k id l) e ∧ (e = 0 → Nice l) := by
  by_cases h : (l.length : Int) > 8
  · exact ⟨7, by unfold concordanceref08_May.f; exact Ev.pos h (Ev.ret rfl), fun e => (by cases e)⟩
  · obtain ⟨e, he, h6⟩ := may_loop id l (by omega) hs l.length 0 0 (by omega) (by omega) ⟨by simp, by simp⟩
    exact ⟨e, by unfold concordanceref08_May.f; exact Ev.neg h he, h6⟩
end Go.Proofs.YtbbfilmajiilhaaDoor
