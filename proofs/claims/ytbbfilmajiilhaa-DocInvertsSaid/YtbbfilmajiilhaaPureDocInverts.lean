/- A document turned round is the document's: the plain law, and what the row asks. No condition. -/
import Derived.Test.YtbbfilmajiilhaaBnd1
import Derived.Test.YtbbfilmajiilhaaOpenDoc
import Derived.Test.YtbbfilmajiilhaaPAllx12
set_option linter.unusedVariables false
set_option linter.unusedSimpArgs false
namespace Go.Proofs.Ytbbfilmajiilhaa
open Go.RowKit Go.Proofs.Ytbbfilmajiilhaa.PAll Go.Proofs.YtbbfilmajiilhaaW.PrintWords Go.Proofs.YtbbfilmajiilhaaW.PrintLast

theorem rise_nd {l : List Tm} (h : Rise l) : l.Nodup := h.imp (fun {x y} h => by rintro rfl; exact List.lt_irrefl _ h)
theorem sum_none (x : Tm) : ∀ T : List Tm, x ∉ T → (T.map (fun t => if x = t then 1 else 0)).sum = 0 := by
  intro T
  induction T with
  | nil => intro _; rfl
  | cons a T ih =>
    intro h
    rw [List.map_cons, List.sum_cons, ih (fun q => h (List.mem_cons_of_mem _ q)), if_neg (fun e : x = a => h (by rw [e]; exact List.mem_cons_self))]
theorem sum_one (x : Tm) : ∀ T : List Tm, T.Nodup → x ∈ T → (T.map (fun t => if x = t then 1 else 0)).sum = 1 := by
  intro T
  induction T with
  | nil => intro _ h; cases h
  | cons a T ih =>
    intro h m
    obtain ⟨h1, h2⟩ := List.nodup_cons.1 h
    rw [List.map_cons, List.sum_cons]
    by_cases e : x = a
    · rw [if_pos e, sum_none x T (e ▸ h1)]
    · rw [if_neg e, Nat.zero_add, ih h2 ((List.mem_cons.1 m).resolve_left e)]
theorem sum_add (f g : Tm → Nat) : ∀ T : List Tm, (T.map (fun t => f t + g t)).sum = (T.map f).sum + (T.map g).sum := by
  intro T
  induction T with
  | nil => rfl
  | cons a T ih => rw [List.map_cons, List.sum_cons, ih, List.map_cons, List.sum_cons, List.map_cons, List.sum_cons]; omega
theorem told_cons (t : Tm) (o : Occ) (pre : List Occ) : told t (o :: pre) = told t pre + if tmOf o = t then 1 else 0 := by
  unfold told
  rw [List.countP_cons]
  congr 1
  by_cases h : tmOf o = t
  · rw [if_pos h, if_pos (decide_eq_true ⟨congrArg Prod.fst h, congrArg Prod.snd h⟩)]
  · rw [if_neg h, if_neg (fun q => h (Prod.ext (of_decide_eq_true q).1 (of_decide_eq_true q).2))]
theorem sum_zeros : ∀ T : List Tm, (T.map (fun _ => 0)).sum = 0 := by
  intro T
  induction T with
  | nil => rfl
  | cons a T ih => rw [List.map_cons, List.sum_cons, ih]
theorem sum_told (T : List Tm) (hT : T.Nodup) : ∀ pre : List Occ, (∀ o ∈ pre, tmOf o ∈ T) → (T.map (fun t => told t pre)).sum = pre.length := by
  intro pre
  induction pre with
  | nil =>
    intro _
    show (T.map (fun _ => 0)).sum = 0
    exact sum_zeros T
  | cons o pre ih =>
    intro h
    have e : (fun t => told t (o :: pre)) = fun t => told t pre + if tmOf o = t then 1 else 0 := funext fun t => told_cons t o pre
    rw [e, sum_add, ih (fun q hq => h q (List.mem_cons_of_mem _ hq)), sum_one (tmOf o) T hT (h o List.mem_cons_self)]
    rfl
theorem rdPl (l : List (List Int)) (i : Nat) (h : i < l.length) : rd_L7 l (i : Int) = l[i] := by unfold rd_L7; rw [Int.toNat_natCast, List.getD_eq_getElem?_getD, List.getElem?_eq_getElem h]; rfl
def soFar (pre : List Occ) (i : Nat) : Nat := (((termsOf pre).take i).map (fun t => told t pre)).sum
theorem soFar_step (pre : List Occ) (i : Nat) (h : i < (termsOf pre).length) : soFar pre (i + 1) = soFar pre i + told (termsOf pre)[i] pre := by
  unfold soFar
  rw [List.take_succ_eq_append_getElem h, List.map_append, List.sum_append, List.map_cons, List.map_nil, List.sum_cons, List.sum_nil, Nat.add_zero]
theorem soFar_le (pre : List Occ) (i : Nat) : soFar pre i ≤ i * pre.length := by
  unfold soFar
  have h : ∀ T : List Tm, (T.map (fun t => told t pre)).sum ≤ T.length * pre.length := by
    intro T
    induction T with
    | nil => exact Nat.zero_le _
    | cons a T ih => rw [List.map_cons, List.sum_cons, List.length_cons, Nat.succ_mul]; have := told_le a pre; omega
  refine Nat.le_trans (h _) (Nat.mul_le_mul_right _ ?_)
  rw [List.length_take]
  exact Nat.min_le_left _ _
theorem soFar_all (pre : List Occ) (hz : ∀ o ∈ pre, NoZero o.1.data.toList) : soFar pre (termsOf pre).length = pre.length := by
  unfold soFar
  rw [List.take_length]
  exact sum_told _ (rise_nd (rise_termsOf pre hz)) pre (fun o ho => (mem_termsOf pre _).2 ⟨o, ho, rfl⟩)
theorem inverts_loop (g : List Fd) (id : Int) (ha : docOk g) (hN : Nice g) (hz : ∀ o ∈ occ g, NoZero o.1.data.toList) (d : Nat) : ∀ i : Nat, i + d = (termsOf (occ g)).length →
    Ev (fun k => concordancelaw08_DocInverts.l0 k ((termsOf (occ g)).map toS) ((termsOf (occ g)).map (placesIn (occ g))) ((termsOf (occ g)).map toS) ((soFar (occ g) i : Nat) : Int) (i : Int) id g) true := by
  have hln := termsOf_len (occ g)
  have hol := ha.occ
  induction d with
  | zero =>
    intro i hi
    have hi : i = (termsOf (occ g)).length := by omega
    subst hi
    refine Ev.step (fun k => by rw [concordancelaw08_DocInverts.l0, soFar_all _ hz]) ?_
    refine Ev.neg (by rw [List.length_map]; omega) ?_
    refine Ev.const (show doc_Weight.f id g = some _ from if_pos ha) ?_
    refine Ev.pos rfl ?_
    refine Ev.bind (weight_ev id g ha hN) ?_
    exact Ev.pos rfl (Ev.bind lives_ev (Ev.ret rfl))
  | succ d ih =>
    intro i hi
    have hil : i < (termsOf (occ g)).length := by omega
    have hrd := toS_rd (termsOf (occ g)) i hil
    obtain ⟨t, ht⟩ : ∃ t, t = (termsOf (occ g))[i] := ⟨_, rfl⟩
    have hpl : rd_L7 ((termsOf (occ g)).map (placesIn (occ g))) (i : Int) = placesIn (occ g) t := by rw [rdPl _ i (by rw [List.length_map]; exact hil), List.getElem_map, ht]
    rw [← ht] at hrd
    have hlen : (placesIn (occ g) t).length = told t (occ g) := (told_places _ _).symm
    have htl := told_le t (occ g)
    have hst := soFar_step (occ g) i hil
    rw [← ht] at hst
    have hsl := soFar_le (occ g) i
    have hsl2 : soFar (occ g) i ≤ 1000001000 * 1000001000 := Nat.le_trans hsl (Nat.mul_le_mul (by omega) hol)
    refine Ev.step (fun k => by rw [concordancelaw08_DocInverts.l0, hpl, hrd, hlen, ← Int.natCast_add, ← hst, wrap_small ((soFar (occ g) (i + 1) : Nat) : Int) (by omega), wrap_nat i (by omega)]) ?_
    refine Ev.pos (by rw [List.length_map]; omega) <| Ev.pos (by omega) <| Ev.pos (by rw [List.length_map]; omega) ?_
    refine Ev.neg (by simp) <| Ev.pos (by rw [List.length_map]; omega) ?_
    refine Ev.bind (places_ev id g (toS t).f0 (toS t).f1 ha) ?_
    rw [show plc (words8 g (toS t).f0) (toS t).f1 = placesIn (occ g) t from (places_own hN.2 t).symm]
    refine Ev.bind (same1_ev _ (by rw [hlen]; omega)) ?_
    exact Ev.pos rfl (ih (i + 1) (by omega))
theorem doc_inverts_ev (id : Int) (l : List Fd) (hl : l.length ≤ 9223372036854775807) (hs : ∀ f ∈ l, f.f0.size ≤ 9223372036854775807) : Ev (fun k => concordancelaw08_DocInverts.f k id l) true := by
  obtain ⟨g, hg, hf⟩ := good_ev id l hl hs
  obtain ⟨d1, d2⟩ := hf.doc
  have hz : ∀ o ∈ occ g, NoZero o.1.data.toList := fun o ho => (occ_tiny d1 d2 ho).2
  unfold concordancelaw08_DocInverts.f
  refine Ev.bind hg ?_
  refine Ev.const (show doc_Invert.f id g = some _ from if_pos ⟨d1, d2⟩) ?_
  refine Ev.bind (terms_ev id g d1 d2 hf.nice) ?_
  refine Ev.pos rfl ?_
  have hb : ((((termsOf (occ g)).map (placesIn (occ g))).length : Int) != (((termsOf (occ g)).map toS).length : Int)) = false := by
    rw [List.length_map, List.length_map]; simp
  rw [hb]
  refine Ev.step (fun k => by rw [concordancelaw08_DocInverts.j0]) ?_
  refine Ev.neg (by decide) ?_
  exact inverts_loop g id d1 hf.nice hz _ 0 (Nat.zero_add _)
theorem docInverts_walk (id : Int) (A : Option Addr) (c : Nat) (l : List Fd) (w : World) (hr : Kd.C k29 w A l.length l) (hc : l.length ≤ c) (hs : ∀ f ∈ l, f.f0.size ≤ 9223372036854775807 ∧ f.f1.size ≤ 9223372036854775807) :
    Calls Try.prog 4 #[.agg #[.int .i64 id, .slice A l.length c]] w fun e w' => e = .returned (.bool true) ∧ Below w.heap.size w w' := by
  obtain ⟨k, hk⟩ := (doc_inverts_ev id l hr.2.1 (fun f hf => (hs f hf).1)).rounds
  exact concordancelaw08_DocInverts.calls k id A c l true w hr hc hk
end Go.Proofs.Ytbbfilmajiilhaa
