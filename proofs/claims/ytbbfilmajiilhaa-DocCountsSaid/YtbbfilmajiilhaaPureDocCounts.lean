/- Whether a document has a term, and how often, and how often words stand side by side: the plain law, and what the row asks. No condition. -/
import Derived.Test.YtbbfilmajiilhaaBnd1
import Derived.Test.YtbbfilmajiilhaaOpenDoc
import Derived.Test.YtbbfilmajiilhaaCountsC
set_option linter.unusedVariables false
set_option linter.unusedSimpArgs false
namespace Go.Proofs.Ytbbfilmajiilhaa
open Go.RowKit Go.Proofs.Ytbbfilmajiilhaa.PAll Go.Proofs.YtbbfilmajiilhaaW.PrintWords Go.Proofs.YtbbfilmajiilhaaW.PrintLast

theorem plc_count (L : List ByteArray) (w : ByteArray) : (plc L w).length = L.countP (fun y => decide (y = w)) := by
  unfold plc
  rw [List.length_map, ← List.countP_eq_length_filter]
  conv => rhs; rw [← List.zipIdx_map_fst 0 L, List.countP_map]
  rfl
theorem phr_count (w : ByteArray) : ∀ L : List ByteArray, phr [w] L = L.countP (fun y => decide (y = w))
  | [] => rfl
  | x :: L => by
    rw [phr_cons, phr_count w L, List.countP_cons]
    have e : (x :: L).take [w].length = [x] := rfl
    rw [e, Nat.add_comm]
    congr 1
    by_cases h : x = w
    · rw [if_pos (by rw [h]), if_pos (decide_eq_true h)]
    · rw [if_neg (fun q => h (List.cons.inj q).1), if_neg (by simpa using h)]
theorem phr_one (g : List Fd) (hN : Nice g) (t : Tm) : phrD g t.1 [t.2] = told t (occ g) := by
  rw [phrD_eq hN.2, told_places, places_own hN.2, plc_count, ← phr_count]
  exact if_neg (by simp)
theorem counts_loop (g : List Fd) (id : Int) (ha : docOk g) (hN : Nice g) (f x : ByteArray) (lq : List ByteArray) (hq : lq.length ≤ 5) (U : List Tm) (hU : U.length ≤ 1000000000000) (d : Nat) : ∀ i : Nat, i + d = U.length →
    Ev (fun k => concordancelaw08_DocCounts.l0 k lq (U.map toS) (i : Int) f x id g) true := by
  induction d with
  | zero =>
    intro i hi
    refine Ev.step (fun k => by rw [concordancelaw08_DocCounts.l0]) ?_
    refine Ev.neg (by rw [List.length_map]; omega) ?_
    refine Ev.bind (phrD_ev id g f lq ha (by omega)) ?_
    refine Ev.bind (phr8_ev id g f lq ha (by omega)) ?_
    refine Ev.pos (by rw [phrD_eq hN.2]) ?_
    have h0 : phrD g f [] = 0 := by rw [phrD_eq hN.2]; exact if_pos rfl
    have he := phrD_ev id g f [] ha (by simp)
    rw [h0] at he
    exact Ev.bind he (Ev.pos rfl (Ev.bind lives_ev (Ev.ret rfl)))
  | succ d ih =>
    intro i hi
    have hil : i < U.length := by omega
    have hrd := toS_rd U i hil
    obtain ⟨t, ht⟩ : ∃ t, t = U[i] := ⟨_, rfl⟩
    rw [← ht] at hrd
    have hpl : ((plc (words8 g (toS t).f0) (toS t).f1).length : Int) = (told t (occ g) : Int) := by
      rw [told_places, places_own hN.2]
      rfl
    have hph := phr_one g hN t
    refine Ev.step (fun k => by rw [concordancelaw08_DocCounts.l0, hrd, wrap_nat i (by omega)]) ?_
    refine Ev.pos (by rw [List.length_map]; omega) <| Ev.pos (by omega) ?_
    refine Ev.bind (places_ev id g (toS t).f0 (toS t).f1 ha) ?_
    rw [hpl]
    refine Ev.const (show doc_Count.f id g (toS t).f0 (toS t).f1 = some ((told t (occ g) : Nat) : Int) from if_pos ha) ?_
    refine Ev.pos rfl ?_
    have hhas : doc_Has.f id g (toS t).f0 (toS t).f1 = some (decide (((told t (occ g) : Nat) : Int) > 0)) := by
      unfold doc_Has.f
      rw [show doc_Count.f id g (toS t).f0 (toS t).f1 = some ((told t (occ g) : Nat) : Int) from if_pos ha]
      rfl
    refine Ev.const hhas ?_
    refine Ev.neg (by simp) ?_
    refine Ev.bind (phrD_ev id g t.1 [t.2] ha (by simp)) ?_
    rw [hph]
    exact Ev.pos rfl (ih (i + 1) (by omega))
theorem doc_counts_ev (id : Int) (l : List Fd) (f x : ByteArray) (lq : List ByteArray) (hq : lq.length ≤ 5) (hl : l.length ≤ 9223372036854775807) (hs : ∀ f ∈ l, f.f0.size ≤ 9223372036854775807) :
    Ev (fun k => ((concordanceref08_Good.f k id l).bind fun bt365 => ((some (([(⟨f, x⟩ : S39)] : List (S39)) : List (S39))).bind fun y398 => ((concordanceref08_Terms.f k bt365.1 bt365.2).bind fun t401 => (if y398.length + t401.length < 4398046511104 then (concordancelaw08_DocCounts.l0 k lq (y398 ++ t401) 0 f x bt365.1 bt365.2) else (none)))))) true := by
  obtain ⟨g, hg, hf⟩ := good_ev id l hl hs
  obtain ⟨d1, d2⟩ := hf.doc
  have hln := termsOf_len (occ g)
  have hol := d1.occ
  refine Ev.bind hg ?_
  refine Ev.const (a := [⟨f, x⟩]) rfl ?_
  refine Ev.bind (terms_ev id g d1 d2 hf.nice) ?_
  refine Ev.pos (by rw [List.length_map]; simp only [List.length_cons, List.length_nil]; omega) ?_
  exact counts_loop g id d1 hf.nice f x lq hq ((f, x) :: termsOf (occ g)) (by rw [List.length_cons]; omega) _ 0 (Nat.zero_add _)
theorem docCounts_walk (id : Int) (A : Option Addr) (c : Nat) (l : List Fd) (f x : ByteArray) (B : Option Addr) (n : Nat) (m : List ByteArray) (w : World) (hr : Kd.C k29 w A l.length l) (hc : l.length ≤ c) (hs : ∀ f ∈ l, f.f0.size ≤ 9223372036854775807 ∧ f.f1.size ≤ 9223372036854775807)
    (hr2 : Kd.C Kd.string w B m.length m) (hc2 : m.length ≤ n) :
    Calls Try.prog 5 #[.agg #[.int .i64 id, .slice A l.length c], .agg #[.string f, .string x], .slice B m.length n] w fun e w' => e = .returned (.bool true) ∧ Below w.heap.size w w' := by
  obtain ⟨k, hk⟩ := (doc_counts_ev id l f x (m.take 5) (by rw [List.length_take]; omega) hr.2.1 (fun f hf => (hs f hf).1)).rounds
  exact concordancelaw08_DocCounts.calls5 k id A c l f x B n m true w hr hc hr2 hc2 rfl (m.take 5) rfl hk
end Go.Proofs.Ytbbfilmajiilhaa
