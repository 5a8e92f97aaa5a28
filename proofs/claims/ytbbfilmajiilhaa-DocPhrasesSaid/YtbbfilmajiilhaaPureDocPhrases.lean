/- Words that stand side by side in a field are counted there at least once, from any place on, so many: the plain law, and what the row asks. No condition. -/
import Derived.Test.YtbbfilmajiilhaaPurePhr
import Derived.Test.YtbbfilmajiilhaaOpenDoc
import Derived.Test.YtbbfilmajiilhaaPAllx11
set_option linter.unusedVariables false
set_option linter.unusedSimpArgs false
namespace Go.Proofs.Ytbbfilmajiilhaa
open Go.RowKit Go.Proofs.Ytbbfilmajiilhaa.PAll Go.Proofs.YtbbfilmajiilhaaW.PrintWords Go.Proofs.YtbbfilmajiilhaaW.PrintLast

theorem phrases_loop (g : List Fd) (id : Int) (ha : docOk g) (hN : Nice g) (a n : Int) (h0 : 0 ≤ a) (n0 : 0 ≤ n) (d : Nat) : ∀ i : Nat, i + d = g.length → Ev (fun k => concordancelaw08_DocPhrases.l0 k a n (i : Int) id g) true := by
  have hgl := ha.1
  induction d with
  | zero =>
    intro i hi
    refine Ev.step (fun k => by rw [concordancelaw08_DocPhrases.l0]) ?_
    exact Ev.neg (by omega) (Ev.bind lives_ev (Ev.ret rfl))
  | succ d ih =>
    intro i hi
    have hil : i < g.length := by omega
    have hrd := rdF_nat g i hil
    have hL := words8_len g g[i].f0 ha
    have step := ih (i + 1) (by omega)
    refine Ev.step (fun k => by rw [concordancelaw08_DocPhrases.l0, hrd, wrap_nat i (by omega)]) ?_
    refine Ev.pos (by omega) <| Ev.pos (by omega) <| Ev.bind (words8_ev id g g[i].f0 ha) ?_
    by_cases hz : (words8 g g[i].f0).length = 0
    · exact Ev.pos (by omega) step
    · obtain ⟨k0, e0, l0⟩ := tmod_nat h0 (m := (words8 g g[i].f0).length) (by omega)
      have e1 : wrap64 (((words8 g g[i].f0).length : Int) - Int.tmod a ((words8 g g[i].f0).length : Int)) = (((words8 g g[i].f0).length - k0 : Nat) : Int) := by rw [e0, wrap_small _ (by omega)]; omega
      obtain ⟨r, e2, l2⟩ := tmod_nat n0 (m := (words8 g g[i].f0).length - k0) (by omega)
      have e3 : wrap64 ((wrap64 (Int.tmod a ((words8 g g[i].f0).length : Int) + 1)) + (Int.tmod n (wrap64 (((words8 g g[i].f0).length : Int) - Int.tmod a ((words8 g g[i].f0).length : Int))))) = ((k0 + 1 + r : Nat) : Int) := by
        rw [e1, e2, e0, wrap_nat k0 (by omega), wrap_small _ (by omega)]; omega
      refine Ev.neg (by omega) <| Ev.neg (by rw [e1]; omega) <| Ev.pos (by rw [e0]; omega) <| Ev.pos (by rw [e3, e0]; omega) <| Ev.pos (by rw [e3]; omega) ?_
      have hown : (((words8 g g[i].f0).take ((k0 + 1 + r : Nat) : Int).toNat).drop ((k0 : Nat) : Int).toNat).length = r + 1 := by
        rw [List.length_drop, List.length_take]; omega
      have hk : (((words8 g g[i].f0).drop k0).take (r + 1)) = (((words8 g g[i].f0).take ((k0 + 1 + r : Nat) : Int).toNat).drop ((k0 : Nat) : Int).toNat) := by
        rw [Int.toNat_natCast, Int.toNat_natCast, List.drop_take]
        congr 1
        omega
      refine Ev.const (a := ((words8 g g[i].f0).take ((k0 + 1 + r : Nat) : Int).toNat).drop ((k0 : Nat) : Int).toNat) (by rw [e3, e0]) ?_
      generalize ((words8 g g[i].f0).take ((k0 + 1 + r : Nat) : Int).toNat).drop ((k0 : Nat) : Int).toNat = own at hown hk ⊢
      have hne : own ≠ [] := fun e => by rw [e] at hown; exact absurd hown (by simp)
      have hpe : phrD g g[i].f0 own = phr own (words8 g g[i].f0) := by rw [phrD_eq hN.2]; exact if_neg hne
      have hp8 : phr8 g g[i].f0 own = phr own (words8 g g[i].f0) := if_neg hne
      have hlb := phr_lb own (words8 g g[i].f0) k0 l0 (by rw [hown]; exact hk)
      have hub := phr_ub own (words8 g g[i].f0)
      refine Ev.bind (phrD_ev id g g[i].f0 own ha (by omega)) ?_
      rw [hpe]
      refine Ev.neg (by omega) <| Ev.neg ?_ <| Ev.bind (phr8_ev id g g[i].f0 own ha (by omega)) ?_
      · rw [wrap_small (((words8 g g[i].f0).length : Int) - (own.length : Int)) (by omega), wrap_small _ (by omega)]
        omega
      · rw [hp8]
        exact Ev.pos rfl step
theorem doc_phrases_ev (id : Int) (l : List Fd) (a n : Int) (hl : l.length ≤ 9223372036854775807) (hs : ∀ f ∈ l, f.f0.size ≤ 9223372036854775807) (ha : -9223372036854775808 ≤ a ∧ a ≤ 9223372036854775807) (hn : -9223372036854775808 ≤ n ∧ n ≤ 9223372036854775807) : Ev (fun k => concordancelaw08_DocPhrases.f k id l a n) true := by
  obtain ⟨g, hg, hf⟩ := good_ev id l hl hs
  obtain ⟨d1, d2⟩ := hf.doc
  unfold concordancelaw08_DocPhrases.f
  refine Ev.bind hg ?_
  have tail : ∀ a n : Int, 0 ≤ a → 0 ≤ n → Ev (fun k => concordancelaw08_DocPhrases.j1 k a n id g) true := by
    intro a n h0 n0
    refine Ev.step (fun k => by rw [concordancelaw08_DocPhrases.j1]) ?_
    exact phrases_loop g id d1 hf.nice a n h0 n0 _ 0 (Nat.zero_add _)
  have mid : ∀ a : Int, 0 ≤ a → Ev (fun k => concordancelaw08_DocPhrases.j0 k a n id g) true := by
    intro a h0
    refine Ev.step (fun k => by rw [concordancelaw08_DocPhrases.j0]) ?_
    by_cases hn0 : n < 0
    · exact Ev.pos hn0 (tail _ _ h0 (nonneg_of n hn hn0))
    · exact Ev.neg hn0 (tail _ _ h0 (by omega))
  by_cases ha0 : a < 0
  · exact Ev.pos ha0 (mid _ (nonneg_of a ha ha0))
  · exact Ev.neg ha0 (mid _ (by omega))
theorem i64_in {n : Int} (h : (Lit.int .i64 n).wf = true) : -9223372036854775808 ≤ n ∧ n ≤ 9223372036854775807 := by
  have hnb : IntKind.i64.min ≤ n ∧ n ≤ IntKind.i64.max := by simpa [Lit.wf] using h
  exact hnb
theorem docPhrases_walk (id : Int) (A : Option Addr) (c : Nat) (l : List Fd) (a n : Int) (w : World) (hr : Kd.C k29 w A l.length l) (hc : l.length ≤ c) (hs : ∀ f ∈ l, f.f0.size ≤ 9223372036854775807 ∧ f.f1.size ≤ 9223372036854775807) (ha : (Lit.int .i64 a).wf = true) (hn : (Lit.int .i64 n).wf = true) :
    Calls Try.prog 3 #[.agg #[.int .i64 id, .slice A l.length c], .int .i64 a, .int .i64 n] w fun e w' => e = .returned (.bool true) ∧ Below w.heap.size w w' := by
  obtain ⟨k, hk⟩ := (doc_phrases_ev id l a n hr.2.1 (fun f hf => (hs f hf).1) (i64_in ha) (i64_in hn)).rounds
  exact concordancelaw08_DocPhrases.calls k id A c l a n true w hr hc hk
end Go.Proofs.Ytbbfilmajiilhaa
