/- Which documents may be, and which are the same: the plain law, and what the row asks. No condition. -/
import Derived.Test.YtbbfilmajiilhaaDoorLives
import Derived.Test.YtbbfilmajiilhaaDoorMayR
import Derived.Test.YtbbfilmajiilhaaDoorMayC
import Derived.Test.YtbbfilmajiilhaaDoorOpenDoc
import Derived.Test.YtbbfilmajiilhaaDoorPAllx9
set_option linter.unusedVariables false
set_option linter.unusedSimpArgs false
namespace Go.Proofs.YtbbfilmajiilhaaDoor
open Go.RowKit Go.Proofs.YtbbfilmajiilhaaDoor.PAll Go.Proofs.YtbbfilmajiilhaaDoorW.PrintWords Go.Proofs.YtbbfilmajiilhaaDoorW.PrintLast

/-! ### few -/
theorem mn_nat (n m : Nat) : mn (n : Int) (m : Int) = ((min n m : Nat) : Int) := by unfold mn; split <;> omega
theorem few_loop (id : Int) (l : List Fd) (d : Nat) : ∀ (i : Nat) (acc : List Fd), i + d = min l.length 10 → acc.length ≤ i → (∀ f ∈ acc, f.f0.size ≤ 20 ∧ f.f1.size ≤ 60) →
    ∃ g, Ev (fun k => concordancelaw08_few.l0 k (i : Int) id l id acc) (id, g) ∧ g.length ≤ 10 ∧ ∀ f ∈ g, f.f0.size ≤ 20 ∧ f.f1.size ≤ 60 := by
  induction d with
  | zero =>
    intro i acc hi ha hf
    refine ⟨acc, ?_, by omega, hf⟩
    refine Ev.step (fun k => by rw [concordancelaw08_few.l0]) ?_
    by_cases h : i < l.length
    · exact Ev.pos (by omega) (Ev.neg (by omega) (Ev.ret rfl))
    · exact Ev.neg (by omega) (Ev.ret rfl)
  | succ d ih =>
    intro i acc hi ha hf
    have hil : i < l.length := by omega
    have hrd := rdF_nat l i hil
    have e1 : mn ((l[i].f0).size : Int) 20 = ((min l[i].f0.size 20 : Nat) : Int) := mn_nat _ 20
    have e2 : mn ((l[i].f1).size : Int) 60 = ((min l[i].f1.size 60 : Nat) : Int) := mn_nat _ 60
    obtain ⟨g, hg, h2⟩ := ih (i + 1) (acc ++ [⟨l[i].f0.extract 0 ((min l[i].f0.size 20 : Nat) : Int).toNat, l[i].f1.extract 0 ((min l[i].f1.size 60 : Nat) : Int).toNat⟩]) (by omega) (by simp; omega) (by
      intro f hm
      rcases List.mem_append.1 hm with h | h
      · exact hf f h
      · rw [List.mem_singleton.1 h]
        simp only [ByteArray.size_extract, Int.toNat_natCast]
        omega)
    refine ⟨g, ?_, h2⟩
    refine Ev.step (fun k => by rw [concordancelaw08_few.l0, hrd, e1, e2, wrap_nat i (by omega)]) ?_
    exact Ev.pos (by omega) <| Ev.pos (by omega) <| Ev.pos (by omega) <| Ev.pos (by omega) <| Ev.pos (by omega) <| Ev.pos (by omega) <| Ev.pos (by omega) <| Ev.pos (by omega) hg
theorem few_ev (id : Int) (l : List Fd) : ∃ g, Ev (fun k => concordancelaw08_few.f k id l) (id, g) ∧ g.length ≤ 10 ∧ ∀ f ∈ g, f.f0.size ≤ 20 ∧ f.f1.size ≤ 60 := by
  unfold concordancelaw08_few.f
  exact few_loop id l (min l.length 10) 0 [] (by omega) (by simp) (by simp)

/-! ### the same? -/
instance fdDec : DecidableEq S24 := fun a b => if h : a.f0 = b.f0 ∧ a.f1 = b.f1 then isTrue (by obtain ⟨a0, a1⟩ := a; obtain ⟨b0, b1⟩ := b; obtain ⟨rfl, rfl⟩ := h; rfl) else isFalse (fun e => h ⟨congrArg _ e, congrArg _ e⟩)
theorem drop_step (a b : List Fd) (i : Nat) (ha : i < a.length) (hb : i < b.length) : (a.drop i = b.drop i) ↔ (a[i] = b[i] ∧ a.drop (i + 1) = b.drop (i + 1)) := by
  rw [List.drop_eq_getElem_cons ha, List.drop_eq_getElem_cons hb, List.cons.injEq]
theorem fd_ne (a b : Fd) : ((!((a.f0).toList == (b.f0).toList)) || (!((a.f1).toList == (b.f1).toList))) = true ↔ a ≠ b := by
  obtain ⟨a0, a1⟩ := a
  obtain ⟨b0, b1⟩ := b
  simp only [Bool.or_eq_true, Bool.not_eq_true', beq_eq_false_iff_ne, ne_eq, bytes_ne, S24.mk.injEq]
  exact ⟨fun h q => h.elim (fun h => h q.1) (fun h => h q.2), fun h => Classical.byCases (fun e : a0 = b0 => .inr (fun e2 => h ⟨e, e2⟩)) .inl⟩
theorem eqF_loop (a b : List Fd) (hl : a.length = b.length) (hn : a.length ≤ 1000000) (d : Nat) : ∀ i : Nat, i + d = a.length → Ev (fun k => api_Field_26.l0 k a b (a.length : Int) (i : Int)) (decide (a.drop i = b.drop i)) := by
  induction d with
  | zero =>
    intro i hi
    refine Ev.step (fun k => by rw [api_Field_26.l0]) ?_
    refine Ev.neg (by omega) (Ev.ret ?_)
    rw [List.drop_eq_nil_of_le (by omega), List.drop_eq_nil_of_le (by omega)]; rfl
  | succ d ih =>
    intro i hi
    have ha : i < a.length := by omega
    have hb : i < b.length := by omega
    refine Ev.step (fun k => by rw [api_Field_26.l0, rdF_nat a i ha, rdF_nat b i hb, wrap_nat i (by omega)]) ?_
    refine Ev.pos (by omega) <| Ev.pos (by omega) <| Ev.pos (by omega) <| Ev.pos (by omega) ?_
    by_cases he : a[i] = b[i]
    · refine Ev.neg (fun h => (fd_ne _ _).1 h he) ?_
      rw [show decide (a.drop i = b.drop i) = decide (a.drop (i + 1) = b.drop (i + 1)) by rw [decide_eq_decide, drop_step a b i ha hb]; exact ⟨fun h => h.2, fun h => ⟨he, h⟩⟩]
      exact ih (i + 1) (by omega)
    · refine Ev.pos ((fd_ne _ _).2 he) (Ev.ret ?_)
      rw [decide_eq_false (fun h => he ((drop_step a b i ha hb).1 h).1)]
theorem sameR_loop (x y : Int) (a b : List Fd) (hl : a.length = b.length) (hn : a.length ≤ 1000000) (d : Nat) : ∀ i : Nat, i + d = a.length → Ev (fun k => concordanceref08_Same.l0 k (i : Int) x a y b) (decide (a.drop i = b.drop i)) := by
  induction d with
  | zero =>
    intro i hi
    refine Ev.step (fun k => by rw [concordanceref08_Same.l0]) ?_
    refine Ev.neg (by omega) (Ev.ret ?_)
    rw [List.drop_eq_nil_of_le (by omega), List.drop_eq_nil_of_le (by omega)]; rfl
  | succ d ih =>
    intro i hi
    have ha : i < a.length := by omega
    have hb : i < b.length := by omega
    refine Ev.step (fun k => by rw [concordanceref08_Same.l0, rdF_nat a i ha, rdF_nat b i hb, wrap_nat i (by omega)]) ?_
    refine Ev.pos (by omega) <| Ev.pos (by omega) <| Ev.pos (by omega) ?_
    by_cases he : a[i] = b[i]
    · refine Ev.neg (fun h => (fd_ne _ _).1 h he) ?_
      rw [show decide (a.drop i = b.drop i) = decide (a.drop (i + 1) = b.drop (i + 1)) by rw [decide_eq_decide, drop_step a b i ha hb]; exact ⟨fun h => h.2, fun h => ⟨he, h⟩⟩]
      exact ih (i + 1) (by omega)
    · refine Ev.pos ((fd_ne _ _).2 he) (Ev.ret ?_)
      rw [decide_eq_false (fun h => he ((drop_step a b i ha hb).1 h).1)]
theorem same_d (x y : Int) (a b : List Fd) (hn : a.length ≤ 1000000) : Ev (fun k => doc_Same.f k x a y b) (decide (x = y ∧ a = b)) := by
  unfold doc_Same.f
  by_cases hx : x = y
  · refine Ev.pos hx ?_
    have hf : Ev (fun k => api_Field_26.f k a b) (decide (a = b)) := by
      unfold api_Field_26.f
      by_cases hl : a.length = b.length
      · exact Ev.pos (by omega) (eqF_loop a b hl hn a.length 0 (by omega))
      · exact Ev.neg (by omega) (Ev.ret (decide_eq_false (fun h => hl (congrArg _ h))).symm)
    refine Ev.bind hf (Ev.ret ?_)
    rw [decide_eq_decide]
    exact ⟨fun h => ⟨hx, h⟩, fun h => h.2⟩
  · exact Ev.neg hx (Ev.ret (decide_eq_false (fun h => hx h.1)).symm)
theorem same_r (x y : Int) (a b : List Fd) (hn : a.length ≤ 1000000) : Ev (fun k => concordanceref08_Same.f k x a y b) (decide (x = y ∧ a = b)) := by
  unfold concordanceref08_Same.f
  by_cases hx : x = y
  · refine Ev.pos hx ?_
    refine Ev.step (fun k => by rw [concordanceref08_Same.j0]) ?_
    by_cases hl : a.length = b.length
    · refine Ev.neg (by rw [hl]; simp) ?_
      have h := sameR_loop x y a b hl hn a.length 0 (by omega)
      rw [show decide (x = y ∧ a = b) = decide (a.drop 0 = b.drop 0) by rw [decide_eq_decide]; exact ⟨fun h => h.2, fun h => ⟨hx, h⟩⟩]
      exact h
    · refine Ev.pos (by simp; omega) (Ev.ret (decide_eq_false (fun h => hl (congrArg _ h.2))).symm)
  · refine Ev.neg hx ?_
    refine Ev.step (fun k => by rw [concordanceref08_Same.j0]) ?_
    exact Ev.pos rfl (Ev.ret (decide_eq_false (fun h => hx h.1)).symm)

/-! ### the law -/
theorem doc_may_f (id : Int) (l : List Fd) (hl : l.length ≤ 1000) (hf : ∀ f ∈ l, f.f0.size ≤ 9223372036854775807 ∧ f.f1.size ≤ 1000000) : doc_May.f id l = some (mayN l) :=
  if_pos ⟨⟨hl, fun f h => (hf f h).2⟩, fun f h => (hf f h).1⟩
theorem may_end (id cid : Int) (a : List Fd) (ha : a.length ≤ 10) (hf : ∀ f ∈ a, f.f0.size ≤ 20 ∧ f.f1.size ≤ 60) (d : Nat) : ∀ (i : Nat) (c : List Fd), c.length = a.length → i + d = a.length → Ev (fun k => concordancelaw08_DocMay.l0 k (i : Int) id a cid c) true := by
  induction d with
  | zero =>
    intro i c hc hi
    obtain ⟨g, hg, hG⟩ := good2_ev id a (by omega) (fun f h => by have := (hf f h).1; omega)
    refine Ev.step (fun k => by rw [concordancelaw08_DocMay.l0]) ?_
    refine Ev.neg (by omega) (Ev.bind hg ?_)
    refine Ev.const (doc_may_f id g (by have := hG.few; omega) (fun f h => ⟨(hG.small f h).1, by have := (hG.small f h).2; omega⟩)) ?_
    exact Ev.pos hG.nice.2 (Ev.bind lives_ev (Ev.ret rfl))
  | succ d ih =>
    intro i c hc hi
    have hia : i < a.length := by omega
    have hz := (hf _ (List.getElem_mem hia)).1
    have hg := ih (i + 1) (c.set i ⟨a[i].f0 ++ ⟨#[120]⟩, (rd_T24 c (i : Int)).f1⟩) (by rw [List.length_set]; exact hc) (by omega)
    refine Ev.step (fun k => by rw [concordancelaw08_DocMay.l0, rdF_nat a i hia, wrap_nat i (by omega)]) ?_
    exact Ev.pos (by omega) <| Ev.pos (by omega) <| Ev.pos (by omega) <| Ev.pos (by omega) <| Ev.pos rfl hg
theorem doc_docmay_ev (id : Int) (l : List Fd) (id2 : Int) (m : List Fd) (s : ByteArray) (hs : s.size ≤ 9223372036854775807) : Ev (fun k => concordancelaw08_DocMay.f k id l id2 m s) true := by
  obtain ⟨a, ea, la, fa⟩ := few_ev id l
  obtain ⟨b, eb, lb, fb⟩ := few_ev id2 m
  have hcl : doc_Clone.f id a = some (id, a) := by
    unfold doc_Clone.f
    rw [show api_Field_24.f a = some a from if_pos (by omega)]
    rfl
  have e1 : mn (s.size : Int) 20 = ((min s.size 20 : Nat) : Int) := mn_nat _ 20
  have hsz : (s.extract 0 ((min s.size 20 : Nat) : Int).toNat).size ≤ 9223372036854775807 := by rw [ByteArray.size_extract]; omega
  have fa2 : ∀ f ∈ a, f.f0.size ≤ 9223372036854775807 ∧ f.f1.size ≤ 1000000 := fun f h => by have := fa f h; omega
  unfold concordancelaw08_DocMay.f
  rw [e1]
  refine Ev.bind ea (Ev.bind eb (Ev.pos (by omega) (Ev.pos (by omega) ?_)))
  refine Ev.const hcl (Ev.const (doc_may_f id a (by omega) fa2) (Ev.bind (rmay_ev id a (by omega) fa2) (Ev.pos rfl ?_)))
  refine Ev.bind (same_d id id2 a b (by omega)) (Ev.bind (same_r id id2 a b (by omega)) (Ev.neg (by simp) ?_))
  refine Ev.bind (same_r id id a a (by omega)) (Ev.pos (by simp) ?_)
  refine Ev.const (name_f _ hsz) (Ev.bind (name_ev _ hsz) ?_)
  refine Ev.step (fun k => by rw [concordancelaw08_DocMay.j0]) ?_
  exact Ev.neg (by simp) (may_end id id a la fa a.length 0 a rfl (by omega))
theorem docMay_walk (id : Int) (A : Option Addr) (c : Nat) (l : List Fd) (id2 : Int) (B : Option Addr) (n : Nat) (m : List Fd) (s : ByteArray) (w : World) (hr : Kd.C k24 w A l.length l) (hc : l.length ≤ c) (_hs : ∀ f ∈ l, f.f0.size ≤ 9223372036854775807 ∧ f.f1.size ≤ 9223372036854775807)
    (hr2 : Kd.C k24 w B m.length m) (hc2 : m.length ≤ n) (_hs2 : ∀ f ∈ m, f.f0.size ≤ 9223372036854775807 ∧ f.f1.size ≤ 9223372036854775807) (hz : s.size ≤ 9223372036854775807) :
    Calls Tryd.prog 4 #[.agg #[.int .i64 id, .slice A l.length c], .agg #[.int .i64 id2, .slice B m.length n], .string s] w fun e w' => e = .returned (.bool true) ∧ Below w.heap.size w w' := by
  obtain ⟨k, hk⟩ := (doc_docmay_ev id l id2 m s hz).rounds
  exact concordancelaw08_DocMay.calls k id A c l id2 B n m s true w hr hc hr2 hc2 hk
end Go.Proofs.YtbbfilmajiilhaaDoor
