/- The document's May, told exactly; what its Good makes may be. No condition. -/
import Derived.Test.YtbbfilmajiilhaaDoorMayP
import Derived.Test.YtbbfilmajiilhaaDoorDocG
set_option linter.unusedVariables false
set_option linter.unusedSimpArgs false
namespace Go.Proofs.YtbbfilmajiilhaaDoor
open Go.RowKit Go.Proofs.YtbbfilmajiilhaaDoor.PAll Go.Proofs.YtbbfilmajiilhaaDoorW.PrintWords Go.Proofs.YtbbfilmajiilhaaDoorW.PrintLast

theorem rtok_loop (W : List ByteArray) (hW : W.length ≤ 1000000000) (d : Nat) : ∀ (i : Nat) (acc : List S59), i + d = W.length → acc.length = i →
    ∃ r : List S59, Ev (fun k => concordanceref02_Tokens.l0 k W acc (i : Int)) (r, tokE (W.drop i) i) ∧ (tokE (W.drop i) i = 0 → r.length = W.length) := by
  induction d with
  | zero =>
    intro i acc hi ha
    rw [List.drop_eq_nil_of_le (by omega)]
    refine ⟨acc, Ev.step (fun k => by rw [concordanceref02_Tokens.l0]) ?_, fun _ => by omega⟩
    exact Ev.neg (by omega) (Ev.ret rfl)
  | succ d ih =>
    intro i acc hi ha
    have hil : i < W.length := by omega
    have hrd := rdS_nat W i hil
    rw [List.drop_eq_getElem_cons hil]
    by_cases h2 : 30 < W[i].size
    · have e : tokE (W[i] :: W.drop (i + 1)) i = 3 := if_pos h2
      rw [e]
      exact ⟨[], Ev.step (fun k => by rw [concordanceref02_Tokens.l0, hrd]) (Ev.pos (by omega) (Ev.pos (by omega) (Ev.pos (by omega) (Ev.ret rfl)))), fun h => by cases h⟩
    · by_cases h3 : 500 ≤ i
      · have e : tokE (W[i] :: W.drop (i + 1)) i = 7 := (if_neg h2).trans (if_pos h3)
        rw [e]
        exact ⟨[], Ev.step (fun k => by rw [concordanceref02_Tokens.l0, hrd]) (Ev.pos (by omega) (Ev.pos (by omega) (Ev.neg (by omega) (Ev.pos (by omega) (Ev.ret rfl))))), fun h => by cases h⟩
      · have e : tokE (W[i] :: W.drop (i + 1)) i = tokE (W.drop (i + 1)) (i + 1) := (if_neg h2).trans (if_neg h3)
        rw [e]
        obtain ⟨r, hr, h4⟩ := ih (i + 1) (acc ++ [⟨W[i], (i : Int)⟩]) (by omega) (by simp; omega)
        exact ⟨r, Ev.step (fun k => by rw [concordanceref02_Tokens.l0, hrd, wrap_nat i (by omega)]) (Ev.pos (by omega) (Ev.pos (by omega) (Ev.neg (by omega) (Ev.neg (by omega) (Ev.pos (by omega) hr))))), h4⟩
theorem rtok_ev (s : ByteArray) (hs : s.size ≤ 100000000) : ∃ r : List S59, Ev (fun k => concordanceref02_Tokens.f k s) (r, tokE (wordsT s) 0) ∧ (tokE (wordsT s) 0 = 0 → r.length = (wordsT s).length) := by
  have hl := wordsT_len s
  obtain ⟨r, h1, h2⟩ := rtok_loop (wordsT s) (by omega) (wordsT s).length 0 [] (by omega) rfl
  refine ⟨r, ?_, h2⟩
  unfold concordanceref02_Tokens.f
  exact Ev.bind (rwords_ev s (by omega)) h1
def Slim (l : List Fd) : Prop := ∀ f ∈ l, f.f0.size ≤ 9223372036854775807 ∧ f.f1.size ≤ 1000000
theorem rmay_loop (id : Int) (l : List Fd) (hl : l.length ≤ 1000) (hz : Slim l) (d : Nat) : ∀ i n : Nat, i + d = l.length → n ≤ 1000001 * i →
    Ev (fun k => concordanceref08_May.l0 k (n : Int) (i : Int) id l) (mayD (l.take i) (l.drop i) n) := by
  induction d with
  | zero =>
    intro i n hi hn
    rw [List.drop_eq_nil_of_le (by omega), mayD_nil]
    refine Ev.step (fun k => by rw [concordanceref08_May.l0]) ?_
    refine Ev.neg (by omega) ?_
    by_cases h5 : 500 < n
    · rw [if_pos h5]; exact Ev.pos (by omega) (Ev.ret rfl)
    · rw [if_neg h5]; exact Ev.neg (by omega) (Ev.ret rfl)
  | succ d ih =>
    intro i n hi hn
    have hil : i < l.length := by omega
    have hrd := rdF_nat l i hil
    obtain ⟨hz0, hz1⟩ := hz _ (List.getElem_mem hil)
    have htk : l.take (i + 1) = l.take i ++ [l[i]] := List.take_succ_eq_append_getElem hil
    rw [List.drop_eq_getElem_cons hil, mayD_cons]
    refine Ev.step (fun k => by rw [concordanceref08_May.l0, hrd]) ?_
    refine Ev.pos (by omega) <| Ev.pos (by omega) <| Ev.bind (name_ev _ hz0) ?_
    by_cases hnb : nameB l[i].f0 = true
    · rw [if_neg (show ¬ nameB l[i].f0 = false by rw [hnb]; decide)]
      refine Ev.pos hnb ?_
      have inner : ∀ e j : Nat, j + e = i → (∀ g ∈ l.take j, g.f0 ≠ l[i].f0) → Ev (fun k => concordanceref08_May.l1 k (n : Int) (i : Int) (j : Int) id l) (if (l.take i).any (fun g => decide (g.f0 = l[i].f0)) = true then 5 else if tokE (wordsT l[i].f1) 0 = 0 then mayD (l.take i ++ [l[i]]) (l.drop (i + 1)) (n + (wordsT l[i].f1).length) else tokE (wordsT l[i].f1) 0) := by
        intro e
        induction e with
        | zero =>
          intro j hj hno
          have hj : j = i := by omega
          subst hj
          have hna : ¬ (l.take j).any (fun g => decide (g.f0 = l[j].f0)) = true := by
            intro h
            obtain ⟨g, hg, h2⟩ := List.any_eq_true.1 h
            exact hno g hg (of_decide_eq_true h2)
          rw [if_neg hna]
          obtain ⟨r, hr, hrl⟩ := rtok_ev l[j].f1 (by omega)
          have hwl := wordsT_len l[j].f1
          refine Ev.step (fun k => by rw [concordanceref08_May.l1, hrd, wrap_nat j (by omega)]) ?_
          refine Ev.neg (by omega) <| Ev.pos (by omega) <| Ev.pos (by omega) <| Ev.bind hr ?_
          by_cases ht : tokE (wordsT l[j].f1) 0 = 0
          · rw [if_pos ht, ← htk]
            refine Ev.pos ht ?_
            have h2 := ih (j + 1) (n + (wordsT l[j].f1).length) (by omega) (by omega)
            show Ev (fun k => concordanceref08_May.l0 k (wrap64 ((n : Int) + (r.length : Int))) _ id l) _
            rw [hrl ht, wrap_small _ (by omega), ← Int.natCast_add]
            exact h2
          · rw [if_neg ht]
            exact Ev.neg ht (Ev.ret rfl)
        | succ e ihe =>
          intro j hj hno
          have hjl : j < l.length := by omega
          have hrj := rdF_nat l j hjl
          refine Ev.step (fun k => by rw [concordanceref08_May.l1, hrd, hrj, wrap_nat j (by omega)]) ?_
          refine Ev.pos (by omega) <| Ev.pos (by omega) <| Ev.pos (by omega) <| Ev.pos (by omega) <| Ev.pos (by omega) ?_
          by_cases he : l[j].f0 = l[i].f0
          · refine Ev.pos (by rw [he]) ?_
            have hmem : l[j] ∈ l.take i := by
              have h3 : j < (l.take i).length := by rw [List.length_take]; omega
              have := List.getElem_mem h3
              rwa [List.getElem_take] at this
            rw [if_pos (List.any_eq_true.2 ⟨_, hmem, decide_eq_true he⟩)]
            exact Ev.ret rfl
          · refine Ev.neg (fun h => he (bytes_ne.1 h)) ?_
            refine ihe (j + 1) (by omega) (fun g hg => ?_)
            rw [List.take_succ_eq_append_getElem hjl] at hg
            rcases List.mem_append.1 hg with h | h
            · exact hno g h
            · rw [List.mem_singleton.1 h]; exact he
      exact inner i 0 (by omega) (by simp)
    · have hnf : nameB l[i].f0 = false := by simpa using hnb
      rw [if_pos hnf]
      exact Ev.neg hnb (Ev.ret rfl)
theorem rmay_ev (id : Int) (l : List Fd) (hl : l.length ≤ 1000) (hz : Slim l) : Ev (fun k => concordanceref08_May.f k id l) (mayN l) := by
  unfold concordanceref08_May.f mayN
  by_cases h8 : 8 < l.length
  · rw [if_pos h8]; exact Ev.pos (by omega) (Ev.ret rfl)
  · rw [if_neg h8]
    exact Ev.neg (by omega) (rmay_loop id l hl hz l.length 0 0 (by omega) (by omega))
theorem may2_ev (id : Int) (l : List Fd) (hs : Small l) (hl : l.length ≤ 1000) : ∃ e, Ev (fun k => concordanceref08_May.f k id l) e ∧ (e = 0 → Nice l ∧ mayN l = 0) := by
  obtain ⟨e, he, h1⟩ := may_ev id l hs
  have h2 := rmay_ev id l hl (fun f hf => ⟨(hs f hf).1, by have := (hs f hf).2; omega⟩)
  obtain ⟨ka, ha⟩ := he
  obtain ⟨kb, hb⟩ := h2
  have e2 : e = mayN l := Option.some.inj ((ha (ka + kb) (by omega)).symm.trans (hb (ka + kb) (by omega)))
  have he : Ev (fun k => concordanceref08_May.f k id l) e := ⟨ka, ha⟩
  exact ⟨e, he, fun h => ⟨h1 h, e2 ▸ h⟩⟩
structure Fine2 (l out : List Fd) : Prop where
  nice : (Nice out ∧ mayN out = 0)
  sub : out.Sublist (fixes l)
  small : Small out
  few : out.length ≤ 4
theorem good2_loop (id : Int) (l : List Fd) (hl : l.length ≤ 9223372036854775807) (hs : ∀ f ∈ l, f.f0.size ≤ 9223372036854775807) : ∀ (d i : Nat) (out : List Fd), i + d = min l.length 4 → (Nice out ∧ mayN out = 0) → out.Sublist ((fixes l).take i) → Small out → out.length ≤ i →
    ∃ g, Ev (fun k => concordanceref08_Good.l0 k pool (i : Int) id l id out) (id, g) ∧ Fine2 l g := by
  intro d
  induction d with
  | zero =>
    intro i out hi hN hsub hsm hol
    refine ⟨out, ?_, hN, hsub.trans (List.take_sublist _ _), hsm, by omega⟩
    by_cases h : i < l.length
    · refine Ev.step (fun k => by rw [concordanceref08_Good.l0]) (Ev.pos (by omega) ?_)
      rw [show decide ((i : Int) < 4) = false from decide_eq_false (by omega)]
      exact Ev.step (fun k => by rw [concordanceref08_Good.j1]) (Ev.neg (by decide) (Ev.ret rfl))
    · refine Ev.step (fun k => by rw [concordanceref08_Good.l0]) (Ev.neg (by omega) ?_)
      exact Ev.step (fun k => by rw [concordanceref08_Good.j1]) (Ev.neg (by decide) (Ev.ret rfl))
  | succ d ih =>
    intro i out hi hN hsub hsm hol
    have hil : i < l.length := by omega
    have hi4 : i < 4 := by omega
    have hrd := rdF_nat l i hil
    have hf0 := hs _ (List.getElem_mem hil)
    have hnm := name_ev l[i].f0 hf0
    have hfx := fixes_take l i hil
    have hfs := fix_size i l[i] hi4 hf0
    have hsm2 : Small (out ++ [fixF i l[i]]) := by
      intro f hf
      rcases List.mem_append.1 hf with hf | hf
      · exact hsm f hf
      · rw [List.mem_singleton.1 hf]; exact hfs
    obtain ⟨e, he, h6⟩ := may2_ev id (out ++ [fixF i l[i]]) hsm2 (by simp; omega)
    obtain ⟨g, hg, h7⟩ : ∃ g, Ev (fun k => if e = 0 then (concordanceref08_Good.l0 k pool (wrap64 ((i : Int) + 1)) id l id (out ++ [fixF i l[i]])) else (concordanceref08_Good.l0 k pool (wrap64 ((i : Int) + 1)) id l id out)) (id, g) ∧ Fine2 l g := by
      rw [wrap_nat i (by omega)]
      by_cases h0 : e = 0
      · obtain ⟨g, hg, h7⟩ := ih (i + 1) (out ++ [fixF i l[i]]) (by omega) (h6 h0) (by rw [hfx]; exact hsub.append (List.Sublist.refl _)) hsm2 (by simp; omega)
        exact ⟨g, Ev.pos h0 hg, h7⟩
      · obtain ⟨g, hg, h7⟩ := ih (i + 1) out (by omega) hN (by rw [hfx]; exact hsub.trans (List.sublist_append_left _ _)) hsm (by omega)
        exact ⟨g, Ev.neg h0 hg, h7⟩
    refine ⟨g, ?_, h7⟩
    have hmn : (0 : Int) ≤ mn ((l[i].f1).size : Int) 40 := by rw [mn_40]; omega
    have hmn2 : mn ((l[i].f1).size : Int) 40 ≤ ((l[i].f1).size : Int) := by rw [mn_40]; omega
    refine Ev.step (fun k => by rw [concordanceref08_Good.l0]) (Ev.pos (by omega) ?_)
    rw [show decide ((i : Int) < 4) = true from decide_eq_true (by omega)]
    refine Ev.step (fun k => by rw [concordanceref08_Good.j1, hrd]) (Ev.pos rfl (Ev.pos (by omega) (Ev.pos (by omega) (Ev.bind hnm ?_))))
    by_cases hb : nameB l[i].f0 = true
    · have hfe : fixF i l[i] = ⟨l[i].f0, l[i].f1.extract 0 ((mn ((l[i].f1).size : Int) 40 : Int)).toNat⟩ := by unfold fixF; rw [if_pos hb]
      rw [hfe] at he hg
      exact Ev.pos hb (Ev.pos hmn (Ev.pos hmn2 (Ev.pos (by simp; omega) (Ev.const (a := out) (by simp) (Ev.pos (by omega) (Ev.const rfl (Ev.bind he hg)))))))
    · have hfe : fixF i l[i] = ⟨rdOf ByteArray.empty pool (i : Int), l[i].f1.extract 0 ((mn ((l[i].f1).size : Int) 40 : Int)).toNat⟩ := by unfold fixF; rw [if_neg hb]
      rw [hfe] at he hg
      exact Ev.neg hb (Ev.pos (by show (i : Int) < ((4 : Nat) : Int); omega) (Ev.pos hmn (Ev.pos hmn2 (Ev.pos (by simp; omega) (Ev.const (a := out) (by simp) (Ev.pos (by omega) (Ev.const rfl (Ev.bind he hg))))))))
theorem good2_ev (id : Int) (l : List Fd) (hl : l.length ≤ 9223372036854775807) (hs : ∀ f ∈ l, f.f0.size ≤ 9223372036854775807) : ∃ g, Ev (fun k => concordanceref08_Good.f k id l) (id, g) ∧ Fine2 l g := by
  obtain ⟨g, hg, h⟩ := good2_loop id l hl hs (min l.length 4) 0 [] (by omega) ⟨⟨by simp, by simp⟩, rfl⟩ (by simp) (by simp [Small]) (by simp)
  exact ⟨g, by unfold concordanceref08_Good.f; exact hg, h⟩
end Go.Proofs.YtbbfilmajiilhaaDoor
