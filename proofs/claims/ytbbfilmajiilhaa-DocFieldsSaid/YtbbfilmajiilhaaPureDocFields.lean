/- Words of one field are no words of another one: the plain law. No condition. -/
import Derived.Test.YtbbfilmajiilhaaBnd1
import Derived.Test.YtbbfilmajiilhaaPAllx14
set_option linter.unusedVariables false
set_option linter.unusedSimpArgs false
namespace Go.Proofs.Ytbbfilmajiilhaa
open Go.RowKit Go.Proofs.Ytbbfilmajiilhaa.PAll Go.Proofs.YtbbfilmajiilhaaW.PrintWords Go.Proofs.YtbbfilmajiilhaaW.PrintLast

def nT : ByteArray := ⟨#[116]⟩
def nU : ByteArray := ⟨#[117]⟩
def swN (n : ByteArray) : ByteArray := if n = nT then nU else nT
def swT (t : Tm) : Tm := (swN t.1, t.2)
def swO (o : Occ) : Occ := (swN o.1, o.2)
theorem rdL (l : List (List Int)) (i : Nat) (h : i < l.length) : rd_L7 l (i : Int) = l[i] := by unfold rd_L7; rw [Int.toNat_natCast, List.getD_eq_getElem?_getD, List.getElem?_eq_getElem h]; rfl
theorem two_sub {a b : Fd} {g : List Fd} (h : g.Sublist [a, b]) (hl : g.length = 2) : g = [a, b] := h.eq_of_length (by rw [hl]; rfl)
theorem occ_two (s t : ByteArray) : occ [⟨nU, s⟩, ⟨nT, t⟩] = (occ [⟨nT, s⟩, ⟨nU, t⟩]).map swO := by
  have h : ∀ (n m : ByteArray) (L : List ByteArray), swN n = m → occF m L = (occF n L).map swO := by
    intro n m L e
    unfold occF swO
    rw [List.map_map]
    apply List.map_congr_left
    intro x _
    show (m, x.1, x.2) = (swN n, x.1, x.2)
    rw [e]
  unfold occ
  simp only [List.flatMap_cons, List.flatMap_nil, List.append_nil, List.map_append]
  rw [h nT nU (wordsT s) (by unfold swN; rw [if_pos rfl]), h nU nT (wordsT t) (by unfold swN; rw [if_neg (by decide)])]
theorem sw_inj {t u : Tm} (ht : t.1 = nT ∨ t.1 = nU) (hu : u.1 = nT ∨ u.1 = nU) (h : swT t = swT u) : t = u := by
  have h2 : (swT t).2 = (swT u).2 := congrArg _ h
  have h1 : (swT t).1 = (swT u).1 := congrArg _ h
  have h2 : t.2 = u.2 := h2
  have h1 : swN t.1 = swN u.1 := h1
  have hne : nU ≠ nT := by decide
  refine Prod.ext ?_ h2
  rcases ht with e | e <;> rcases hu with e2 | e2
  · rw [e, e2]
  · exfalso; rw [e, e2] at h1; unfold swN at h1; rw [if_pos rfl, if_neg hne] at h1; exact hne h1
  · exfalso; rw [e, e2] at h1; unfold swN at h1; rw [if_pos rfl, if_neg hne] at h1; exact hne h1.symm
  · rw [e, e2]
theorem told_sw (t : Tm) (ht : t.1 = nT ∨ t.1 = nU) (pre : List Occ) (hp : ∀ o ∈ pre, o.1 = nT ∨ o.1 = nU) : told (swT t) (pre.map swO) = told t pre := by
  unfold told
  rw [List.countP_map]
  apply List.countP_congr
  intro o ho
  simp only [Function.comp_apply, decide_eq_true_eq]
  constructor
  · rintro ⟨h1, h2⟩
    have := sw_inj (t := tmOf o) (u := t) (hp o ho) ht (Prod.ext h1 h2)
    exact ⟨congrArg Prod.fst this, congrArg Prod.snd this⟩
  · rintro ⟨h1, h2⟩
    refine ⟨?_, h2⟩
    show swN o.1 = swN t.1
    rw [h1]
theorem rise_nodup {l : List Tm} (h : Rise l) : l.Nodup := h.imp (fun {x y} h => by rintro rfl; exact List.lt_irrefl _ h)
theorem terms_sw (pre : List Occ) (hz : ∀ o ∈ pre, NoZero o.1.data.toList) (hp : ∀ o ∈ pre, o.1 = nT ∨ o.1 = nU) : (termsOf (pre.map swO)).length = (termsOf pre).length := by
  have hz2 : ∀ o ∈ pre.map swO, NoZero o.1.data.toList := by
    intro o ho
    obtain ⟨q, hq, rfl⟩ := List.mem_map.1 ho
    show NoZero (swN q.1).data.toList
    unfold swN
    split <;> decide
  have n1 := rise_nodup (rise_termsOf pre hz)
  have n2 := rise_nodup (rise_termsOf (pre.map swO) hz2)
  have n3 : ((termsOf pre).map swT).Nodup := by
    unfold List.Nodup
    rw [List.pairwise_map]
    refine List.Pairwise.imp_of_mem (fun {a b} ha hb hne e => hne ?_) n1
    obtain ⟨o, ho, rfl⟩ := (mem_termsOf pre a).1 ha
    obtain ⟨q, hq, rfl⟩ := (mem_termsOf pre b).1 hb
    exact sw_inj (hp o ho) (hp q hq) e
  have hperm : (termsOf (pre.map swO)).Perm ((termsOf pre).map swT) := by
    refine (List.perm_ext_iff_of_nodup n2 n3).2 (fun t => ?_)
    rw [mem_termsOf, List.mem_map]
    constructor
    · rintro ⟨o, ho, rfl⟩
      obtain ⟨q, hq, rfl⟩ := List.mem_map.1 ho
      exact ⟨tmOf q, (mem_termsOf pre _).2 ⟨q, hq, rfl⟩, rfl⟩
    · rintro ⟨u, hu, rfl⟩
      obtain ⟨q, hq, rfl⟩ := (mem_termsOf pre u).1 hu
      exact ⟨swO q, List.mem_map.2 ⟨q, hq, rfl⟩, rfl⟩
  rw [hperm.length_eq, List.length_map]
theorem fields_loop (ga gb : List Fd) (ida idb : Int) (ha : docOk ga) (hb : docOk gb) (hsw : occ gb = (occ ga).map swO) (hp : ∀ o ∈ occ ga, o.1 = nT ∨ o.1 = nU) (d : Nat) : ∀ i : Nat, i + d = (termsOf (occ ga)).length →
    Ev (fun k => concordancelaw08_DocFields.l0 k ((termsOf (occ ga)).map toS) ((termsOf (occ ga)).map (placesIn (occ ga))) (i : Int) ida ga idb gb) true := by
  have hwl : (occ gb).length = (occ ga).length := by rw [hsw, List.length_map]
  have hln := termsOf_len (occ ga)
  have hol := ha.occ
  induction d with
  | zero =>
    intro i hi
    refine Ev.step (fun k => by rw [concordancelaw08_DocFields.l0]) ?_
    refine Ev.neg (by rw [List.length_map]; omega) ?_
    refine Ev.const (show doc_Weight.f ida ga = some _ from if_pos ha) ?_
    refine Ev.const (show doc_Weight.f idb gb = some _ from if_pos hb) ?_
    exact Ev.pos (by rw [hwl]) (Ev.bind lives_ev (Ev.ret rfl))
  | succ d ih =>
    intro i hi
    have hil : i < (termsOf (occ ga)).length := by omega
    have hrd := toS_rd (termsOf (occ ga)) i hil
    obtain ⟨t, ht⟩ : ∃ t, t = (termsOf (occ ga))[i] := ⟨_, rfl⟩
    have htm : t.1 = nT ∨ t.1 = nU := by
      obtain ⟨o, ho, e⟩ := (mem_termsOf (occ ga) t).1 (ht ▸ List.getElem_mem hil)
      rw [← e]; exact hp o ho
    have hpl : rd_L7 ((termsOf (occ ga)).map (placesIn (occ ga))) (i : Int) = placesIn (occ ga) t := by rw [rdL _ i (by rw [List.length_map]; exact hil), List.getElem_map, ht]
    rw [← ht] at hrd
    have tail : Ev (fun k => concordancelaw08_DocFields.j2 k ((termsOf (occ ga)).map toS) ((termsOf (occ ga)).map (placesIn (occ ga))) (i : Int) ida ga idb gb (swT t).1 (swT t).2) true := by
      refine Ev.step (fun k => by rw [concordancelaw08_DocFields.j2, hpl, hrd, wrap_nat i (by omega)]) ?_
      refine Ev.const (show doc_Count.f idb gb (swT t).1 (swT t).2 = some _ from if_pos hb) ?_
      refine Ev.pos (by omega) <| Ev.pos (by rw [List.length_map]; omega) <| Ev.pos ?_ <| Ev.pos (by rw [List.length_map]; omega) ?_
      · show ((told (swT t) (occ gb) : Nat) : Int) = _
        rw [hsw, told_sw t htm _ hp, told_places]
      · refine Ev.const (show doc_Count.f ida ga (toS t).f0 (toS t).f1 = some ((told t (occ ga) : Nat) : Int) from if_pos ha) ?_
        exact Ev.pos (by rw [told_places]) (ih (i + 1) (by omega))
    refine Ev.step (fun k => by rw [concordancelaw08_DocFields.l0, hrd]) ?_
    refine Ev.pos (by rw [List.length_map]; omega) <| Ev.pos (by omega) ?_
    by_cases h1 : t.1 = nT
    · refine Ev.pos ?_ ?_
      · show t.1.toList = _
        rw [h1, ByteArray.toList_eq]; rfl
      · have : swT t = (nU, t.2) := by unfold swT swN; rw [if_pos h1]
        rw [this] at tail
        exact tail
    · refine Ev.neg ?_ ?_
      · show ¬ t.1.toList = _
        intro h
        refine h1 (bytes_ne.1 (h.trans ?_))
        rw [ByteArray.toList_eq]; rfl
      · have : swT t = (nT, t.2) := by unfold swT swN; rw [if_neg h1]
        rw [this] at tail
        exact tail
theorem doc_fields_ev (s t : ByteArray) : Ev (fun k => concordancelaw08_DocFields.f k s t) true := by
  obtain ⟨g, hg, hf⟩ := good_ev 0 [⟨nT, s⟩, ⟨nU, t⟩] (by simp) (by
    intro f hf
    rcases List.mem_cons.1 hf with rfl | hf
    · show nT.size ≤ _; decide
    · rw [List.mem_singleton.1 hf]; show nU.size ≤ _; decide)
  unfold concordancelaw08_DocFields.f
  refine Ev.bind hg ?_
  by_cases h2 : g.length = 2
  · have hfx : g = [fixF 0 ⟨nT, s⟩, fixF 1 ⟨nU, t⟩] := two_sub hf.sub h2
    have e0 : ∃ s', fixF 0 ⟨nT, s⟩ = ⟨nT, s'⟩ := ⟨_, by unfold fixF; rw [if_pos (show nameB nT = true by decide)]⟩
    have e1 : ∃ t', fixF 1 ⟨nU, t⟩ = ⟨nU, t'⟩ := ⟨_, by unfold fixF; rw [if_pos (show nameB nU = true by decide)]⟩
    obtain ⟨s', e0⟩ := e0
    obtain ⟨t', e1⟩ := e1
    rw [e0, e1] at hfx
    obtain ⟨d1, d2⟩ := hf.doc
    have hsm := hf.small
    subst hfx
    have hs1 := (hsm ⟨nT, s'⟩ (by simp)).2
    have ht1 := (hsm ⟨nU, t'⟩ (by simp)).2
    have hdb : docOk [⟨nU, s'⟩, ⟨nT, t'⟩] ∧ namesOk [⟨nU, s'⟩, ⟨nT, t'⟩] := by
      refine ⟨⟨by simp, fun f hf => ?_⟩, fun f hf => ?_⟩
      · rcases List.mem_cons.1 hf with rfl | hf
        · show s'.size ≤ _; simp only at hs1; omega
        · rw [List.mem_singleton.1 hf]; show t'.size ≤ _; simp only at ht1; omega
      · rcases List.mem_cons.1 hf with rfl | hf
        · show nU.size ≤ _ ∧ NoZero nU.data.toList; decide
        · rw [List.mem_singleton.1 hf]; show nT.size ≤ _ ∧ NoZero nT.data.toList; decide
    have hsw := occ_two s' t'
    have hp : ∀ o ∈ occ [⟨nT, s'⟩, ⟨nU, t'⟩], o.1 = nT ∨ o.1 = nU := by
      intro o ho
      obtain ⟨f, hf, e, _⟩ := occ_mem ho
      rcases List.mem_cons.1 hf with rfl | hf
      · exact .inl e
      · rw [List.mem_singleton.1 hf] at e; exact .inr e
    have hz : ∀ o ∈ occ [⟨nT, s'⟩, ⟨nU, t'⟩], NoZero o.1.data.toList := fun o ho => (occ_tiny d1 d2 ho).2
    have hlen := terms_sw _ hz hp
    rw [← hsw] at hlen
    refine Ev.pos rfl <| Ev.pos (show (0 : Int) < ((2 : Nat) : Int) by decide) <| Ev.pos (show (1 : Int) < ((2 : Nat) : Int) by decide) ?_
    refine Ev.const (a := [⟨nU, s'⟩, ⟨nT, t'⟩]) rfl ?_
    refine Ev.const (show doc_Invert.f 0 [⟨nT, s'⟩, ⟨nU, t'⟩] = some _ from if_pos ⟨d1, d2⟩) ?_
    refine Ev.const (show doc_Invert.f 0 [⟨nU, s'⟩, ⟨nT, t'⟩] = some _ from if_pos hdb) ?_
    refine Ev.pos (by rw [List.length_map, List.length_map, hlen]) ?_
    have hb : ((((termsOf (occ [⟨nT, s'⟩, ⟨nU, t'⟩])).map (placesIn (occ [⟨nT, s'⟩, ⟨nU, t'⟩]))).length : Int) != (((termsOf (occ [⟨nT, s'⟩, ⟨nU, t'⟩])).map toS).length : Int)) = false := by
      rw [List.length_map, List.length_map]; simp
    rw [hb]
    refine Ev.step (fun k => by rw [concordancelaw08_DocFields.j0]) ?_
    refine Ev.neg (by decide) ?_
    exact fields_loop _ _ 0 0 d1 hdb.1 hsw hp _ 0 (Nat.zero_add _)
  · exact Ev.neg (show ¬ (g.length : Int) = 2 by omega) (Ev.bind lives_ev (Ev.ret rfl))
theorem Pure.DocFields : concordancelaw08_DocFields.Pure := by
  intro a0 a1 _ _
  exact (doc_fields_ev a0 a1).rounds
end Go.Proofs.Ytbbfilmajiilhaa
