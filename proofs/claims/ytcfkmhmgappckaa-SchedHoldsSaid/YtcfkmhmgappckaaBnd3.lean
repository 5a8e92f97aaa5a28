/- Joined: RefD, RefA, RefS, RefC, RefH, RefG, RefB, RefM, RefL, RefW. -/
import Derived.Test.YtcfkmhmgappckaaBnd2
import Derived.BigRegion
import Derived.Deep.RegionLaw
import Derived.Deep.DrawnRows
set_option linter.unusedVariables false
set_option linter.unusedSimpArgs false
/- The document's schedule in memory. No condition. -/
namespace Go.Proofs.Ytcfkmhmgappckaa
open Go.RowKit Go.Proofs.Ytcfkmhmgappckaa.Sc Go.Proofs.Ytcfkmhmgappckaa.PAll Go.Proofs.YtcfkmhmgappckaaW.PrintWords Go.Proofs.YtcfkmhmgappckaaW.PrintLast Go.Proofs.YtcfkmhmgappckaaW.PrintMore

/-- A row: its block, its value, its elements' type and size, its elements. -/
structure Ds where
  ob : Option Nat
  v : Value
  t : Nat
  sz : Nat
  l : List (List Value)
/-- Rows that lie apart. -/
def Fam (w : World) (base : Nat) (D : List Ds) : Prop := (∀ d ∈ D, RowIn w base d.t d.sz d.ob d.v d.l) ∧ (D.map Ds.ob).Pairwise (fun a b => a = none ∨ b = none ∨ a ≠ b)
section
variable {w w1 : World} {base : Nat} {D : List Ds}
theorem Fam.at (h : Fam w base D) {i : Nat} {d : Ds} (hi : D[i]? = some d) : RowIn w base d.t d.sz d.ob d.v d.l := h.1 d (List.mem_of_getElem? hi)
theorem Fam.ne (h : Fam w base D) {i j : Nat} {d e : Ds} (hi : D[i]? = some d) (hj : D[j]? = some e) (hij : i ≠ j) {b : Nat} (hb : d.ob = some b) : e.ob ≠ some b := by
  intro he
  have hp := h.2
  rw [List.pairwise_iff_getElem] at hp
  obtain ⟨hi2, hi3⟩ := List.getElem?_eq_some_iff.1 hi
  obtain ⟨hj2, hj3⟩ := List.getElem?_eq_some_iff.1 hj
  rcases Nat.lt_or_gt_of_ne hij with hlt | hlt
  · have := hp i j (by simpa using hi2) (by simpa using hj2) hlt
    simp only [List.getElem_map, hi3, hj3, hb, he] at this
    simp at this
  · have := hp j i (by simpa using hj2) (by simpa using hi2) hlt
    simp only [List.getElem_map, hi3, hj3, hb, he] at this
    simp at this
theorem Fam.kept (h : Fam w base D) (hs : ∀ d ∈ D, ∀ k, d.ob = some k → w1.heap[k]? = w.heap[k]?) : Fam w1 base D := ⟨fun d hd => (h.1 d hd).same (fun b hb => hs d hd b hb), h.2⟩
theorem Fam.below (h : Fam w base D) (hb : Below w.heap.size w w1) : Fam w1 base D := h.kept (fun d hd k hk => hb.block k ((h.1 d hd).lt k hk).2)
theorem Fam.set (h : Fam w base D) {i : Nat} {d d' : Ds} (hi : D[i]? = some d) (hg : w.grownBy w1 d.ob) (hR : RowIn w1 base d'.t d'.sz d'.ob d'.v d'.l) (hob : d'.ob = none ∨ d'.ob = d.ob ∨ ∃ k, d'.ob = some k ∧ w.heap.size ≤ k) : Fam w1 base (D.set i d') := by
  constructor
  · intro e he
    obtain ⟨j, hj, rfl⟩ := List.getElem_of_mem he
    rw [List.length_set] at hj
    by_cases hij : i = j
    · subst hij; simpa using hR
    · rw [List.getElem_set_ne hij]
      have hj2 : D[j]? = some D[j] := List.getElem?_eq_getElem hj
      exact (h.at hj2).same (fun b hb => hg.block b ((h.at hj2).lt b hb).2 (fun e => h.ne hj2 hi (Ne.symm hij) hb e.symm))
  · rw [List.map_set]
    rcases hob with e | e | ⟨k, e, hk⟩
    · rw [e]
      exact pairwise_set (R := fun a b => a = none ∨ b = none ∨ a ≠ b) apart_symm _ _ _ h.2 (fun z _ => .inl rfl)
    · rw [set_self' _ _ _ (by rw [List.getElem?_map, hi, e]; rfl)]
      exact h.2
    · rw [e]
      refine pairwise_set (R := fun a b => a = none ∨ b = none ∨ a ≠ b) apart_symm _ _ _ h.2 (fun z hz => ?_)
      obtain ⟨x, hx, rfl⟩ := List.mem_map.1 hz
      cases hxo : x.ob with
      | none => exact .inr (.inl rfl)
      | some b =>
        refine .inr (.inr fun e2 => ?_)
        have := ((h.1 x hx).lt b hxo).2
        cases e2; omega
/-- A cell of a row. -/
theorem RowIn.oneCell {t : Nat} {ob : Option Nat} {v : Value} {l : List (List Value)} (h : RowIn w base t 1 ob v l) : v = .slice none 0 0 ∧ l = [] ∨ ∃ b o c, ob = some b ∧ v = .slice (some ⟨b, o, none⟩) l.length c ∧ ∀ i x, l[i]? = some [x] → w.cell? ⟨b, o + i, none⟩ = some x ∧ w.frozen? ⟨b, o + i, none⟩ = false ∧
      ∀ y, RowIn (w.setCell ⟨b, o + i, none⟩ y) base t 1 ob v (l.set i [y]) := by
  rcases h.2 with ⟨_, e, e2⟩ | ⟨b, off, cap, cs, e0, e, hbb, hc, h1, h2, h3⟩
  · exact .inl ⟨e, e2⟩
  · have hs : ∀ (l : List (List Value)), (∀ c ∈ l, c.length = 1) → ∀ j : Nat, l.flatten[j]? = (l[j]?).bind (fun c : List Value => c[0]?) := by
      intro l
      induction l with
      | nil => intro _ j; simp
      | cons c l ih =>
        intro hl j
        have hc := hl c (by simp)
        cases j with
        | zero => rw [List.flatten_cons, List.getElem?_append_left (by omega)]; simp
        | succ j => rw [List.flatten_cons, List.getElem?_append_right (by omega), hc, Nat.add_sub_cancel, ih (fun d hd => hl d (by simp [hd]))]; simp
    refine .inr ⟨b, off * 1, cap, e0, e, fun i x hx => ?_⟩
    have hi := (List.getElem?_eq_some_iff.1 hx).1
    refine ⟨?_, by simp [World.frozen?, hc], fun y => ⟨fun c hc => ?_, .inr ⟨b, off, cap, cs.setIfInBounds (off * 1 + i) y, e0, by rw [e, List.length_set], hbb, ?_, by rw [List.length_set]; exact h1, by simpa using h2, fun j hj => ?_⟩⟩⟩
    · unfold World.cell?
      simp only [hc]
      show cs[off * 1 + i]? = _
      rw [h3 i (by omega), hs l h.1 i, hx]; rfl
    · rcases List.mem_or_eq_of_mem_set hc with hc | rfl
      · exact h.1 c hc
      · rfl
    · simp [World.setCell, hc, Array.getElem?_modify]
    · rw [List.length_set] at hj
      have hl' : ∀ c ∈ l.set i [y], c.length = 1 := by
        intro c hc
        rcases List.mem_or_eq_of_mem_set hc with hc | rfl
        · exact h.1 c hc
        · rfl
      rw [hs _ hl' j, List.getElem?_set]
      have hj1 : j < l.length := by omega
      by_cases e3 : i = j
      · subst e3
        rw [if_pos rfl, if_pos hi]
        rw [Array.getElem?_setIfInBounds]
        have : off * 1 + i < cs.size := by omega
        simp; omega
      · rw [if_neg e3, ← hs l h.1 j, ← h3 j hj]
        rw [Array.getElem?_setIfInBounds, if_neg (by omega)]
end
/-- The rows of a schedule. -/
def DD (h : Nat) (T O W R : Option Nat × Value) (vs us : List (Option Nat × Value)) (S : Sd) : List Ds :=
  [⟨some h, .slice (some ⟨h, 0, none⟩) 1 1, 75, 4, [[T.2, O.2, W.2, R.2]]⟩, ⟨T.1, T.2, 3, 1, ints S.T⟩, ⟨O.1, O.2, 3, 1, ints (S.M.map (·.1))⟩, ⟨W.1, W.2, 22, 1, vs.map fun v => [v.2]⟩, ⟨R.1, R.2, 86, 1, us.map fun u => [u.2]⟩] ++
    (List.zipWith (fun (x : Int × List Int) (v : Option Nat × Value) => (⟨v.1, v.2, 3, 1, ints x.2⟩ : Ds)) S.M vs ++ List.zipWith (fun (x : List (Int × Int)) (u : Option Nat × Value) => (⟨u.1, u.2, 88, 2, pairs x⟩ : Ds)) S.R us)
structure IsR (w : World) (base h : Nat) (T O W R : Option Nat × Value) (vs us : List (Option Nat × Value)) (S : Sd) : Prop where
  fam : Fam w base (DD h T O W R vs us S)
  lenV : vs.length = S.M.length
  lenU : us.length = S.R.length
theorem zip_set {α β γ : Type} (f : α → β → γ) (l : List α) (k : List β) (i : Nat) (x : α) (y : β) : List.zipWith f (l.set i x) (k.set i y) = (List.zipWith f l k).set i (f x y) := by
  apply List.ext_getElem
  · simp
  · intro j h1 h2
    simp only [List.getElem_zipWith, List.getElem_set]
    split <;> rfl
section
variable {w w1 : World} {base h : Nat} {T O W R : Option Nat × Value} {vs us : List (Option Nat × Value)} {S : Sd}
theorem IsR.header (H : IsR w base h T O W R vs us S) : w.cell? ⟨h, 0, none⟩ = some T.2 ∧ w.cell? ⟨h, 1, none⟩ = some O.2 ∧ w.cell? ⟨h, 2, none⟩ = some W.2 ∧ w.cell? ⟨h, 3, none⟩ = some R.2 := by
  have h0 := H.fam.at (i := 0) rfl
  rcases h0.2 with ⟨e, _⟩ | ⟨b, off, cap, cs, e0, e, _, hc, h1, h2, h3⟩
  · cases e
  · have hb : h = b := Option.some.inj e0
    subst hb
    have ho : off * 4 = 0 := by have := congrArg Addr.off (Option.some.inj (Value.slice.inj e).1); simpa using this.symm
    have hl : ([[T.2, O.2, W.2, R.2]] : List (List Value)).length * 4 = 4 := rfl
    refine ⟨?_, ?_, ?_, ?_⟩
    all_goals
      unfold World.cell?
      simp only [hc]
    · have := h3 0 (by rw [hl]; omega); rw [ho] at this; exact this
    · have := h3 1 (by rw [hl]; omega); rw [ho] at this; exact this
    · have := h3 2 (by rw [hl]; omega); rw [ho] at this; exact this
    · have := h3 3 (by rw [hl]; omega); rw [ho] at this; exact this
end
end Go.Proofs.Ytcfkmhmgappckaa

/- The document's schedule: its parts, and behind a store. No condition. -/
namespace Go.Proofs.Ytcfkmhmgappckaa
open Go.RowKit Go.Proofs.Ytcfkmhmgappckaa.Sc Go.Proofs.Ytcfkmhmgappckaa.PAll Go.Proofs.YtcfkmhmgappckaaW.PrintWords Go.Proofs.YtcfkmhmgappckaaW.PrintLast Go.Proofs.YtcfkmhmgappckaaW.PrintMore

theorem set_mid {α : Type} (A B C : List α) (n m : Nat) (x : α) (hA : A.length = n) (hm : m < B.length) : (A ++ (B ++ C)).set (n + m) x = A ++ (B.set m x ++ C) := by
  rw [List.set_append_right _ _ (by omega), List.set_append_left _ _ (by omega), hA, Nat.add_sub_cancel_left]
theorem set_end {α : Type} (A B C : List α) (n k m : Nat) (x : α) (hA : A.length = n) (hB : B.length = k) : (A ++ (B ++ C)).set (n + (k + m)) x = A ++ (B ++ C.set m x) := by
  rw [List.set_append_right _ _ (by omega), hA, Nat.add_sub_cancel_left, List.set_append_right _ _ (by omega), hB, Nat.add_sub_cancel_left]
theorem set_head {α : Type} (A X : List α) (i : Nat) (y : α) (h : i < A.length) : (A ++ X).set i y = A.set i y ++ X := List.set_append_left _ _ h
section
variable {w w1 : World} {base h : Nat} {T O W R : Option Nat × Value} {vs us : List (Option Nat × Value)} {S : Sd}
theorem RowIn.valD {w : World} {base t sz : Nat} {ob : Option Nat} {v : Value} {l : List (List Value)} (h : RowIn w base t sz ob v l) : ∃ A c, v = .slice A l.length c := by
  rcases h.2 with ⟨_, e, e2⟩ | ⟨b, off, cap, cs, _, e, _, _, h1, _⟩
  · subst e2; exact ⟨_, _, e⟩
  · exact ⟨_, _, e⟩
theorem IsR.vals (H : IsR w base h T O W R vs us S) : (∃ A c, T.2 = .slice A S.T.length c) ∧ (∃ A c, O.2 = .slice A S.M.length c) ∧ (∃ A c, W.2 = .slice A S.M.length c) ∧ ∃ A c, R.2 = .slice A S.R.length c := by
  obtain ⟨A1, c1, e1⟩ := (H.fam.at (i := 1) rfl).valD
  obtain ⟨A2, c2, e2⟩ := (H.fam.at (i := 2) rfl).valD
  obtain ⟨A3, c3, e3⟩ := (H.fam.at (i := 3) rfl).valD
  obtain ⟨A4, c4, e4⟩ := (H.fam.at (i := 4) rfl).valD
  have hv := H.lenV
  have hu := H.lenU
  exact ⟨⟨A1, c1, by simpa [ints] using e1⟩, ⟨A2, c2, by simpa [ints] using e2⟩, ⟨A3, c3, by rw [← hv]; simpa using e3⟩, ⟨A4, c4, by rw [← hu]; simpa using e4⟩⟩
theorem IsR.kept (H : IsR w base h T O W R vs us S) (hb : Below w.heap.size w w1) : IsR w1 base h T O W R vs us S := ⟨H.fam.below hb, H.lenV, H.lenU⟩
theorem grown_store (w : World) (b i : Nat) (v : Value) : w.grownBy (w.setCell ⟨b, i, none⟩ v) (some b) :=
  ⟨rfl, rfl, rfl, by simp [World.setCell], fun k _ hk => Below.heap_setCell w ⟨b, i, none⟩ v k (fun e => hk (by rw [e]))⟩
theorem ints_set (l : List Int) (i : Nat) (v : Int) : ints (l.set i v) = (ints l).set i [.int .i64 v] := by simp [ints, List.map_set]
theorem ints_at (l : List Int) (i : Nat) (hi : i < l.length) : (ints l)[i]? = some [.int .i64 l[i]] := by simp [ints, hi]
theorem IsR.accT (H : IsR w base h T O W R vs us S) (t : Nat) (ht : t < S.T.length) : ∃ b o c, T.2 = .slice (some ⟨b, o, none⟩) S.T.length c ∧ w.cell? ⟨b, o + t, none⟩ = some (.int .i64 S.T[t]) ∧ w.frozen? ⟨b, o + t, none⟩ = false ∧ b ≠ h ∧ T.1 = some b ∧
    ∀ v, IsR (w.setCell ⟨b, o + t, none⟩ (.int .i64 v)) base h T O W R vs us (setT S t v) := by
  have hd := H.fam.at (i := 1) rfl
  rcases hd.oneCell with ⟨_, e⟩ | ⟨b, o, c, hb, hv, hc⟩
  · have : S.T.length = 0 := by have := congrArg List.length e; simpa [ints] using this
    omega
  · obtain ⟨c1, c2, c3⟩ := hc t _ (ints_at S.T t ht)
    refine ⟨b, o, c, by simpa [ints] using hv, c1, c2, fun e => H.fam.ne (i := 1) (j := 0) rfl rfl (by omega) hb (by rw [e]), hb, fun v => ⟨?_, H.lenV, H.lenU⟩⟩
    have hset := H.fam.set (w1 := w.setCell ⟨b, o + t, none⟩ (.int .i64 v)) (i := 1) (d' := ⟨T.1, T.2, 3, 1, ints (S.T.set t v)⟩) rfl (by have hg := grown_store w b (o + t) (.int .i64 v); rw [← hb] at hg; exact hg) (by rw [ints_set]; exact c3 _) (.inr (.inl rfl))
    simpa [DD, Sc.setT] using hset
theorem IsR.accO (H : IsR w base h T O W R vs us S) (m : Nat) (hm : m < S.M.length) : ∃ b o c, O.2 = .slice (some ⟨b, o, none⟩) S.M.length c ∧ w.cell? ⟨b, o + m, none⟩ = some (.int .i64 (S.M[m]).1) ∧ w.frozen? ⟨b, o + m, none⟩ = false ∧ b ≠ h ∧ O.1 = some b ∧
    ∀ v, IsR (w.setCell ⟨b, o + m, none⟩ (.int .i64 v)) base h T O W R vs us (setM S m (v, (S.M[m]).2)) := by
  have hd := H.fam.at (i := 2) rfl
  rcases hd.oneCell with ⟨_, e⟩ | ⟨b, o, c, hb, hv, hc⟩
  · have : S.M.length = 0 := by have := congrArg List.length e; simpa [ints] using this
    omega
  · obtain ⟨c1, c2, c3⟩ := hc m _ (ints_at (S.M.map (·.1)) m (by simpa using hm))
    rw [List.getElem_map] at c1
    refine ⟨b, o, c, by simpa [ints] using hv, c1, c2, fun e => H.fam.ne (i := 2) (j := 0) rfl rfl (by omega) hb (by rw [e]), hb, fun v => ⟨?_, by rw [H.lenV]; simp [Sc.setM], H.lenU⟩⟩
    have hset := H.fam.set (w1 := w.setCell ⟨b, o + m, none⟩ (.int .i64 v)) (i := 2) (d' := ⟨O.1, O.2, 3, 1, ints ((S.M.map (·.1)).set m v)⟩) rfl (by have hg := grown_store w b (o + m) (.int .i64 v); rw [← hb] at hg; exact hg) (by rw [ints_set]; exact c3 _) (.inr (.inl rfl))
    have e1 : (setM S m (v, (S.M[m]).2)).M.map (·.1) = (S.M.map (·.1)).set m v := by simp [Sc.setM, List.map_set]
    have e2 : List.zipWith (fun (x : Int × List Int) (v : Option Nat × Value) => (⟨v.1, v.2, 3, 1, ints x.2⟩ : Ds)) (setM S m (v, (S.M[m]).2)).M vs = List.zipWith (fun (x : Int × List Int) (v : Option Nat × Value) => (⟨v.1, v.2, 3, 1, ints x.2⟩ : Ds)) S.M vs := by
      apply List.ext_getElem
      · simp [Sc.setM]
      · intro j h1 h2
        simp only [List.getElem_zipWith, Sc.setM, Int.toNat_natCast, List.getElem_set]
        by_cases e : m = j
        · subst e; simp
        · simp [e]
    unfold DD
    rw [e1, e2]
    simpa [DD] using hset
theorem IsR.accW (H : IsR w base h T O W R vs us S) (m : Nat) (hm : m < S.M.length) : ∃ b o c ob v, W.2 = .slice (some ⟨b, o, none⟩) S.M.length c ∧ vs[m]? = some (ob, v) ∧ w.cell? ⟨b, o + m, none⟩ = some v ∧ w.frozen? ⟨b, o + m, none⟩ = false ∧ b ≠ h ∧ W.1 = some b ∧ ob ≠ some b ∧ ob ≠ some h ∧ RowIn w base 3 1 ob v (ints (S.M[m]).2) ∧
    ∀ w1 ob' v' r', w.grownBy w1 ob → RowIn w1 base 3 1 ob' v' (ints r') → (ob' = none ∨ ob' = ob ∨ ∃ k, ob' = some k ∧ w.heap.size ≤ k) →
      w1.cell? ⟨b, o + m, none⟩ = some v ∧ w1.frozen? ⟨b, o + m, none⟩ = false ∧ w1.cell? ⟨h, 2, none⟩ = some W.2 ∧ IsR (w1.setCell ⟨b, o + m, none⟩ v') base h T O W R (vs.set m (ob', v')) us (setM S m ((S.M[m]).1, r')) := by
  have hvl : m < vs.length := by rw [H.lenV]; exact hm
  have hd := H.fam.at (i := 3) rfl
  have hzl : (List.zipWith (fun (x : Int × List Int) (v : Option Nat × Value) => (⟨v.1, v.2, 3, 1, ints x.2⟩ : Ds)) S.M vs).length = vs.length := by rw [List.length_zipWith, H.lenV, Nat.min_self]
  have hat : (DD h T O W R vs us S)[5 + m]? = some ⟨(vs[m]).1, (vs[m]).2, 3, 1, ints (S.M[m]).2⟩ := by
    unfold DD
    rw [List.getElem?_append_right (by simp), List.getElem?_append_left (by rw [hzl]; simp; omega), List.getElem?_zipWith]
    simp [hm, hvl]
  obtain ⟨⟨ob, u⟩, hx⟩ : ∃ x, x = vs[m] := ⟨_, rfl⟩
  have hv2 : vs[m]? = some (ob, u) := by rw [List.getElem?_eq_getElem hvl, hx]
  rw [← hx] at hat
  rcases hd.oneCell with ⟨_, e⟩ | ⟨b, o, c, hb, hv, hc⟩
  · have : vs.length = 0 := by have := congrArg List.length e; simpa using this
    omega
  · obtain ⟨c1, c2, c3⟩ := hc m u (by rw [List.getElem?_map, hv2]; rfl)
    have hRow := H.fam.at hat
    have hne1 : ob ≠ some b := H.fam.ne (i := 3) (j := 5 + m) rfl hat (by omega) hb
    have hne0 : ob ≠ some h := H.fam.ne (i := 0) (j := 5 + m) rfl hat (by omega) rfl
    refine ⟨b, o, c, ob, u, by rw [← H.lenV]; simpa using hv, hv2, c1, c2, fun e => H.fam.ne (i := 3) (j := 0) rfl rfl (by omega) hb (by rw [e]), hb, hne1, hne0, hRow, fun w1 ob' v' r' hg hR' hob => ?_⟩
    have hblt := (hd.lt b hb).2
    have hhlt := ((H.fam.at (i := 0) rfl).lt h rfl).2
    have k1 : w1.heap[b]? = w.heap[b]? := hg.block b hblt (fun e => hne1 e.symm)
    have k2 : w1.heap[h]? = w.heap[h]? := hg.block h hhlt (fun e => hne0 e.symm)
    have hf1 := H.fam.set hat (w1 := w1) (d' := ⟨ob', v', 3, 1, ints r'⟩) hg hR' hob
    have hat3 : ((DD h T O W R vs us S).set (5 + m) ⟨ob', v', 3, 1, ints r'⟩)[3]? = some ⟨W.1, W.2, 22, 1, vs.map fun v => [v.2]⟩ := by rw [List.getElem?_set_ne (by omega)]; rfl
    rcases (hf1.at hat3).oneCell with ⟨_, e⟩ | ⟨b2, o2, c2', hb2, hv3, hc3⟩
    · have : vs.length = 0 := by have := congrArg List.length e; simpa using this
      omega
    · have e1 : b2 = b := Option.some.inj (hb2.symm.trans hb)
      have e2 : o2 = o := by
        have := hv3.symm.trans hv
        exact congrArg Addr.off (Option.some.inj (Value.slice.inj this).1)
      subst e1
      subst e2
      obtain ⟨q1, q2, q3⟩ := hc3 m u (by rw [List.getElem?_map, hv2]; rfl)
      refine ⟨q1, q2, ?_, ⟨?_, by rw [List.length_set, H.lenV]; simp [Sc.setM], H.lenU⟩⟩
      · have := H.header.2.2.1
        unfold World.cell? at this ⊢
        rw [k2]; exact this
      · have hset := hf1.set (w1 := w1.setCell ⟨b2, o2 + m, none⟩ v') (d' := ⟨W.1, W.2, 22, 1, (vs.set m (ob', v')).map fun v => [v.2]⟩) hat3 (by have hg := grown_store w1 b2 (o2 + m) v'; rw [← hb] at hg; exact hg) (by rw [List.map_set]; exact q3 _) (.inr (.inl rfl))
        have e3 : ((DD h T O W R vs us S).set (5 + m) ⟨ob', v', 3, 1, ints r'⟩).set 3 ⟨W.1, W.2, 22, 1, (vs.set m (ob', v')).map fun v => [v.2]⟩ = DD h T O W R (vs.set m (ob', v')) us (setM S m ((S.M[m]).1, r')) := by
          unfold DD
          rw [set_mid _ _ _ 5 m _ rfl (by rw [hzl]; omega), set_head _ _ 3 _ (by simp)]
          have e4 : (setM S (m : Int) ((S.M[m]).1, r')).M = S.M.set m ((S.M[m]).1, r') := by simp [Sc.setM]
          have e5 : (S.M.set m ((S.M[m]).1, r')).map (·.1) = S.M.map (·.1) := by
            rw [List.map_set]; exact set_self' _ _ _ (by simp [hm])
          rw [e4, e5, zip_set]
          simp
        rw [← e3]
        exact hset
theorem IsR.accR (H : IsR w base h T O W R vs us S) (m : Nat) (hm : m < S.R.length) : ∃ b o c ob v, R.2 = .slice (some ⟨b, o, none⟩) S.R.length c ∧ us[m]? = some (ob, v) ∧ w.cell? ⟨b, o + m, none⟩ = some v ∧ w.frozen? ⟨b, o + m, none⟩ = false ∧ b ≠ h ∧ R.1 = some b ∧ ob ≠ some b ∧ ob ≠ some h ∧ RowIn w base 88 2 ob v (pairs S.R[m]) ∧
    ∀ w1 ob' v' r', w.grownBy w1 ob → RowIn w1 base 88 2 ob' v' (pairs r') → (ob' = none ∨ ob' = ob ∨ ∃ k, ob' = some k ∧ w.heap.size ≤ k) →
      w1.cell? ⟨b, o + m, none⟩ = some v ∧ w1.frozen? ⟨b, o + m, none⟩ = false ∧ w1.cell? ⟨h, 3, none⟩ = some R.2 ∧ IsR (w1.setCell ⟨b, o + m, none⟩ v') base h T O W R vs (us.set m (ob', v')) (setR S m r') := by
  have hvl : m < us.length := by rw [H.lenU]; exact hm
  have hd := H.fam.at (i := 4) rfl
  have hzl : (List.zipWith (fun (x : Int × List Int) (v : Option Nat × Value) => (⟨v.1, v.2, 3, 1, ints x.2⟩ : Ds)) S.M vs).length = vs.length := by rw [List.length_zipWith, H.lenV, Nat.min_self]
  have hat : (DD h T O W R vs us S)[5 + (vs.length + m)]? = some ⟨(us[m]).1, (us[m]).2, 88, 2, pairs S.R[m]⟩ := by
    unfold DD
    rw [List.getElem?_append_right (by simp), List.getElem?_append_right (by rw [hzl]; simp), hzl, List.getElem?_zipWith]
    simp [hm, hvl]
  obtain ⟨⟨ob, u⟩, hx⟩ : ∃ x, x = us[m] := ⟨_, rfl⟩
  have hv2 : us[m]? = some (ob, u) := by rw [List.getElem?_eq_getElem hvl, hx]
  rw [← hx] at hat
  rcases hd.oneCell with ⟨_, e⟩ | ⟨b, o, c, hb, hv, hc⟩
  · have : us.length = 0 := by have := congrArg List.length e; simpa using this
    omega
  · obtain ⟨c1, c2, c3⟩ := hc m u (by rw [List.getElem?_map, hv2]; rfl)
    have hRow := H.fam.at hat
    have hne1 : ob ≠ some b := H.fam.ne (i := 4) (j := 5 + (vs.length + m)) rfl hat (by omega) hb
    have hne0 : ob ≠ some h := H.fam.ne (i := 0) (j := 5 + (vs.length + m)) rfl hat (by omega) rfl
    refine ⟨b, o, c, ob, u, by rw [← H.lenU]; simpa using hv, hv2, c1, c2, fun e => H.fam.ne (i := 4) (j := 0) rfl rfl (by omega) hb (by rw [e]), hb, hne1, hne0, hRow, fun w1 ob' v' r' hg hR' hob => ?_⟩
    have hblt := (hd.lt b hb).2
    have hhlt := ((H.fam.at (i := 0) rfl).lt h rfl).2
    have k2 : w1.heap[h]? = w.heap[h]? := hg.block h hhlt (fun e => hne0 e.symm)
    have hf1 := H.fam.set hat (w1 := w1) (d' := ⟨ob', v', 88, 2, pairs r'⟩) hg hR' hob
    have hat3 : ((DD h T O W R vs us S).set (5 + (vs.length + m)) ⟨ob', v', 88, 2, pairs r'⟩)[4]? = some ⟨R.1, R.2, 86, 1, us.map fun v => [v.2]⟩ := by rw [List.getElem?_set_ne (by omega)]; rfl
    rcases (hf1.at hat3).oneCell with ⟨_, e⟩ | ⟨b2, o2, c2', hb2, hv3, hc3⟩
    · have : us.length = 0 := by have := congrArg List.length e; simpa using this
      omega
    · have e1 : b2 = b := Option.some.inj (hb2.symm.trans hb)
      have e2 : o2 = o := by
        have := hv3.symm.trans hv
        exact congrArg Addr.off (Option.some.inj (Value.slice.inj this).1)
      subst e1
      subst e2
      obtain ⟨q1, q2, q3⟩ := hc3 m u (by rw [List.getElem?_map, hv2]; rfl)
      refine ⟨q1, q2, ?_, ⟨?_, H.lenV, by rw [List.length_set, H.lenU]; simp [Sc.setR]⟩⟩
      · have := H.header.2.2.2
        unfold World.cell? at this ⊢
        rw [k2]; exact this
      · have hset := hf1.set (w1 := w1.setCell ⟨b2, o2 + m, none⟩ v') (d' := ⟨R.1, R.2, 86, 1, (us.set m (ob', v')).map fun v => [v.2]⟩) hat3 (by have hg := grown_store w1 b2 (o2 + m) v'; rw [← hb] at hg; exact hg) (by rw [List.map_set]; exact q3 _) (.inr (.inl rfl))
        have e3 : ((DD h T O W R vs us S).set (5 + (vs.length + m)) ⟨ob', v', 88, 2, pairs r'⟩).set 4 ⟨R.1, R.2, 86, 1, (us.set m (ob', v')).map fun v => [v.2]⟩ = DD h T O W R vs (us.set m (ob', v')) (setR S m r') := by
          unfold DD
          rw [set_end _ _ _ 5 vs.length m _ rfl hzl, set_head _ _ 4 _ (by simp)]
          have e4 : (setR S (m : Int) r').R = S.R.set m r' := by simp [Sc.setR]
          rw [e4, zip_set]
          simp
        rw [← e3]
        exact hset
end
end Go.Proofs.Ytcfkmhmgappckaa

/- The document's schedule and the blocks that it owns. No condition. -/
namespace Go.Proofs.Ytcfkmhmgappckaa
open Go.RowKit Go.Proofs.Ytcfkmhmgappckaa.Sc Go.Proofs.Ytcfkmhmgappckaa.PAll Go.Proofs.YtcfkmhmgappckaaW.PrintWords Go.Proofs.YtcfkmhmgappckaaW.PrintLast Go.Proofs.YtcfkmhmgappckaaW.PrintMore

/-- The rows' blocks. -/
def Obs (T O W R : Option Nat × Value) (vs us : List (Option Nat × Value)) : List (Option Nat × Value) := [T, O, W, R] ++ (vs ++ us)
def Rch (w : World) (base h : Nat) (F : Nat → Prop) (S : Sd) : Prop :=
  (∀ k, F k → base ≤ k ∧ k < w.heap.size) ∧ ∃ T O W R vs us, IsR w base h T O W R vs us S ∧ F h ∧ ∀ x ∈ Obs T O W R vs us, ∀ k, x.1 = some k → F k
def NextR (w : World) (base h : Nat) (F : Nat → Prop) (S : Sd) (w' : World) : Prop := Rch w' base h (Plus F w w') S ∧ Moves F w w'
theorem IsR.ltO {w : World} {base h : Nat} {T O W R : Option Nat × Value} {vs us : List (Option Nat × Value)} {S : Sd} (H : IsR w base h T O W R vs us S) (x : Option Nat × Value) (hx : x ∈ Obs T O W R vs us) (k : Nat) (hk : x.1 = some k) : base ≤ k ∧ k < w.heap.size := by
  rcases List.mem_append.1 hx with hx | hx
  · simp only [List.mem_cons, List.not_mem_nil, or_false] at hx
    rcases hx with rfl | rfl | rfl | rfl
    · exact (H.fam.at (i := 1) rfl).lt k hk
    · exact (H.fam.at (i := 2) rfl).lt k hk
    · exact (H.fam.at (i := 3) rfl).lt k hk
    · exact (H.fam.at (i := 4) rfl).lt k hk
  · have hd : ∃ d ∈ DD h T O W R vs us S, d.ob = x.1 := by
      unfold DD
      rcases List.mem_append.1 hx with hx | hx
      · obtain ⟨i, hi, rfl⟩ := List.getElem_of_mem hx
        have hi2 : i < S.M.length := by rw [← H.lenV]; exact hi
        refine ⟨_, List.mem_append.2 (.inr (List.mem_append.2 (.inl (List.getElem_mem (n := i) (by simp; omega))))), by simp⟩
      · obtain ⟨i, hi, rfl⟩ := List.getElem_of_mem hx
        have hi2 : i < S.R.length := by rw [← H.lenU]; exact hi
        refine ⟨_, List.mem_append.2 (.inr (List.mem_append.2 (.inr (List.getElem_mem (n := i) (by simp; omega))))), by simp⟩
    obtain ⟨d, hd, e⟩ := hd
    exact (H.fam.1 d hd).lt k (by rw [e]; exact hk)
theorem Rch.next {w w' : World} {base h : Nat} {F : Nat → Prop} {S S' : Sd} (H : Rch w base h F S) (hb : base ≤ w.heap.size) {T O W R : Option Nat × Value} {vs us : List (Option Nat × Value)} (h1 : IsR w' base h T O W R vs us S') (hm : Moves F w w')
    (hF : F h) (hx : ∀ x ∈ Obs T O W R vs us, ∀ k, x.1 = some k → F k ∨ w.heap.size ≤ k) : NextR w base h F S' w' :=
  ⟨⟨fun k hk => hk.elim (fun hk => ⟨(H.1 k hk).1, Nat.lt_of_lt_of_le (H.1 k hk).2 hm.size⟩) (fun hk => ⟨Nat.le_trans hb hk.1, hk.2⟩), T, O, W, R, vs, us, h1, .inl hF, fun x hxm k hk => (hx x hxm k hk).elim .inl (fun e => .inr ⟨e, (h1.ltO x hxm k hk).2⟩)⟩, hm⟩
section
variable {w w1 w2 : World} {base g : Nat} {F : Nat → Prop} {S S1 S2 : Sd}
theorem Rch.below (h : Rch w base g F S) (hb : Below w.heap.size w w1) : Rch w1 base g F S := by
  obtain ⟨h0, T, O, W, R, vs, us, h1, h2⟩ := h
  exact ⟨fun k hk => ⟨(h0 k hk).1, Nat.lt_of_lt_of_le (h0 k hk).2 hb.size⟩, T, O, W, R, vs, us, h1.kept hb, h2⟩
theorem Rch.mono {F' : Nat → Prop} (h : Rch w base g F S) (hF : ∀ k, F k → F' k) (hb : ∀ k, F' k → base ≤ k ∧ k < w.heap.size) : Rch w base g F' S := by
  obtain ⟨h0, T, O, W, R, vs, us, h1, a, b⟩ := h
  exact ⟨hb, T, O, W, R, vs, us, h1, hF _ a, fun x hx k hk => hF _ (b x hx k hk)⟩
theorem NextR.pre (hb : Below w.heap.size w w1) (h0 : ∀ k, F k → base ≤ k ∧ k < w.heap.size) (hbase : base ≤ w.heap.size) (h : NextR w1 base g F S w2) : NextR w base g F S w2 :=
  ⟨h.1.mono (fun k hk => hk.imp id (fun e => ⟨Nat.le_trans hb.size e.1, e.2⟩)) (fun k hk => hk.elim (fun e => ⟨(h0 k e).1, Nat.lt_of_lt_of_le (h0 k e).2 (Nat.le_trans hb.size h.2.size)⟩) (fun e => ⟨Nat.le_trans hbase e.1, e.2⟩)), ((Moves.refl F w).below hb).trans' h.2⟩
theorem NextR.of_below (h : Rch w base g F S) (hbase : base ≤ w.heap.size) (hb : Below w.heap.size w w1) : NextR w base g F S w1 :=
  ⟨(h.below hb).mono (fun _ hk => .inl hk) (fun k hk => hk.elim (fun e => ⟨(h.1 k e).1, Nat.lt_of_lt_of_le (h.1 k e).2 hb.size⟩) (fun e => ⟨Nat.le_trans hbase e.1, e.2⟩)), (Moves.refl F w).below hb⟩
theorem NextR.trans (h : NextR w base g F S1 w1) (hk : NextR w1 base g (Plus F w w1) S2 w2) : NextR w base g F S2 w2 :=
  ⟨hk.1.mono (fun k q => by
      rcases q with (q | q) | q
      · exact .inl q
      · exact .inr ⟨q.1, Nat.lt_of_lt_of_le q.2 hk.2.size⟩
      · exact .inr ⟨Nat.le_trans h.2.size q.1, q.2⟩) (fun k q => by
      have := hk.1.1
      rcases q with q | q
      · exact this k (.inl (.inl q))
      · rcases Nat.lt_or_ge k w1.heap.size with h3 | h3
        · exact this k (.inl (.inr ⟨q.1, h3⟩))
        · exact this k (.inr ⟨h3, q.2⟩)), h.2.trans hk.2⟩
theorem Rch.apart {G : Nat → Prop} {h2 : Nat} (h : Rch w base h2 G S) (hm : Moves F w w1) (hd : ∀ k, G k → ¬ F k) : Rch w1 base h2 G S := by
  obtain ⟨h0, T, O, W, R, vs, us, h1, a, b⟩ := h
  refine ⟨fun k hk => ⟨(h0 k hk).1, Nat.lt_of_lt_of_le (h0 k hk).2 hm.size⟩, T, O, W, R, vs, us, ⟨h1.fam.kept (fun d hdm k hk => ?_), h1.lenV, h1.lenU⟩, a, b⟩
  have hG : G k := by
    unfold DD at hdm
    rcases List.mem_append.1 hdm with hdm | hdm
    · simp only [List.mem_cons, List.not_mem_nil, or_false] at hdm
      rcases hdm with rfl | rfl | rfl | rfl | rfl
      · have e : h2 = k := Option.some.inj hk
        exact e ▸ a
      · exact b T (by simp [Obs]) k hk
      · exact b O (by simp [Obs]) k hk
      · exact b W (by simp [Obs]) k hk
      · exact b R (by simp [Obs]) k hk
    · rcases List.mem_append.1 hdm with hdm | hdm
      · obtain ⟨i, hi, rfl⟩ := List.getElem_of_mem hdm
        simp only [List.getElem_zipWith] at hk
        exact b (vs[i]'(by simp at hi; omega)) (List.mem_append.2 (.inr (List.mem_append.2 (.inl (List.getElem_mem _))))) k hk
      · obtain ⟨i, hi, rfl⟩ := List.getElem_of_mem hdm
        simp only [List.getElem_zipWith] at hk
        exact b (us[i]'(by simp at hi; omega)) (List.mem_append.2 (.inr (List.mem_append.2 (.inr (List.getElem_mem _))))) k hk
  exact hm.block k (h0 k hG).2 (hd k hG)
end
theorem NextR.wider {w w1 w2 : World} {base g : Nat} {F : Nat → Prop} {G : Nat → Prop} {S : Sd} (hm : Moves F w w1) (h0 : ∀ k, F k → base ≤ k ∧ k < w.heap.size) (hb : base ≤ w.heap.size) (hG : ∀ k, G k → F k) (h : NextR w1 base g G S w2) : NextR w base g F S w2 := by
  have hsz := hm.size
  have hsz2 := h.2.size
  refine ⟨h.1.mono (fun k q => ?_) (fun k q => ?_), ⟨h.2.os.trans hm.os, h.2.tape.trans hm.tape, h.2.output.trans hm.output, Nat.le_trans hsz hsz2, fun k hk hn => (h.2.block k (by omega) (fun q => hn (hG k q))).trans (hm.block k hk hn)⟩⟩
  · rcases q with q | q
    · exact .inl (hG k q)
    · exact .inr ⟨by omega, q.2⟩
  · rcases q with q | q
    · have := h0 k q; omega
    · omega
end Go.Proofs.Ytcfkmhmgappckaa

/- The document's come, give. No condition but on size. -/
namespace Go.Proofs.Ytcfkmhmgappckaa
open Go.RowKit Go.Proofs.Ytcfkmhmgappckaa.Sc Go.Proofs.Ytcfkmhmgappckaa.PAll Go.Proofs.YtcfkmhmgappckaaW.PrintWords Go.Proofs.YtcfkmhmgappckaaW.PrintLast Go.Proofs.YtcfkmhmgappckaaW.PrintMore

attribute [local go_sem ↓] Go.wp_at_zero Go.wp_at_succ
set_option maxHeartbeats 1000000 in
set_option maxRecDepth 100000 in
theorem rcome_free {w : World} {base h : Nat} {T O W R : Option Nat × Value} {vs us : List (Option Nat × Value)} {S : Sd} (H : IsR w base h T O W R vs us S) (t m : Nat) (ht : t < S.T.length) (hm : m < S.M.length) (hf : (S.M[m]).1 < 0) :
    Calls Try.prog 57 #[.pointer (some ⟨h, 0, none⟩), .int .i64 (t : Int), .int .i64 (m : Int)] w fun e w' => e = .returned (.bool true) ∧ IsR w' base h T O W R vs us (setT (setM S m (t, (S.M[m]).2)) t 0) ∧
      ∀ F : Nat → Prop, (∀ k, O.1 = some k → F k) → (∀ k, T.1 = some k → F k) → Moves F w w' := by
  obtain ⟨bO, oO, cO, eO, kO, zO, nO, obO, sO⟩ := H.accO m hm
  have d1 := H.header.2.1
  rw [eO] at d1
  have g1 : ((m : Nat) : Int) < (S.M.length : Int) := by omega
  have g2 : ((t : Nat) : Int) < (S.T.length : Int) := by omega
  have hd : decide ((S.M[m]).1 < 0) = true := decide_eq_true hf
  have nO' : ¬ h = bO := fun e => nO e.symm
  have hO1 := sO (t : Int)
  obtain ⟨w1, hw1⟩ : ∃ w1, w1 = w.setCell ⟨bO, oO + m, none⟩ (.int .i64 (t : Int)) := ⟨_, rfl⟩
  rw [← hw1] at hO1
  have ht1 : t < (setM S m ((t : Int), (S.M[m]).2)).T.length := ht
  obtain ⟨bT, oT, cT, eT, kT, zT, nT, obT, sT⟩ := hO1.accT t ht1
  have d0 := hO1.header.1
  rw [eT] at d0
  have hfin := sT 0
  have hmv : ∀ F : Nat → Prop, (∀ k, O.1 = some k → F k) → (∀ k, T.1 = some k → F k) → Moves F w (w1.setCell ⟨bT, oT + t, none⟩ (.int .i64 0)) := fun F f1 f2 => by
    rw [hw1]; exact ((Moves.refl F w).store _ _ (f1 bO obO)).store _ _ (f2 bT obT)
  have HFIN := Lib.hid hfin
  have HMV := Lib.hid hmv
  obtain ⟨x0, hx0⟩ : ∃ x0, x0 = (setM S ((m : Nat) : Int) ((t : Int), (S.M[m]).2)).T[t]'ht1 := ⟨_, rfl⟩
  rw [← hx0] at kT
  clear H hO1 sO sT hfin hmv eO eT obO obT hx0
  go_enter Try.func57, Try.ntmps57
  go_upto_region 3 with fail
  rw [← hw1]
  clear hw1
  go_wp2_with fail
  go_ret
  exact ⟨rfl, HFIN.out, HMV.out⟩
set_option maxHeartbeats 1000000 in
set_option maxRecDepth 100000 in
theorem rgive_nil {w : World} {base h : Nat} {T O W R : Option Nat × Value} {vs us : List (Option Nat × Value)} {S : Sd} (H : IsR w base h T O W R vs us S) (m : Nat) (hm : m < S.M.length) (hr : (S.M[m]).2 = []) :
    Calls Try.prog 58 #[.pointer (some ⟨h, 0, none⟩), .int .i64 (m : Int)] w fun e w' => e = .returned (.tuple #[]) ∧ IsR w' base h T O W R vs us (setM S m (-1, [])) ∧ ∀ F : Nat → Prop, (∀ k, O.1 = some k → F k) → Moves F w w' := by
  obtain ⟨bO, oO, cO, eO, kO, zO, nO, obO, sO⟩ := H.accO m hm
  have d1 := H.header.2.1
  rw [eO] at d1
  have g1 : ((m : Nat) : Int) < (S.M.length : Int) := by omega
  have nO' : ¬ h = bO := fun e => nO e.symm
  have hO1 := sO (-1)
  rw [hr] at hO1
  obtain ⟨w1, hw1⟩ : ∃ w1, w1 = w.setCell ⟨bO, oO + m, none⟩ (.int .i64 (-1)) := ⟨_, rfl⟩
  rw [← hw1] at hO1
  have hm1 : m < (setM S m (-1, [])).M.length := by simpa [Sc.setM] using hm
  obtain ⟨bW, oW, cW, ob, v, eW, hv, kW, zW, nW, obW, nob, _, hR, hset⟩ := hO1.accW m hm1
  clear hset
  have hrow : ((setM S (m : Int) (-1, [])).M[m]'hm1).2 = [] := by simp [Sc.setM]
  rw [hrow] at hR
  obtain ⟨A, cap, ev⟩ := RowIn.formNil (show RowIn w1 base 3 1 ob v [] from hR)
  have hlen : (setM S (m : Int) (-1, [])).M.length = S.M.length := by simp [Sc.setM]
  rw [hlen] at eW
  have d2 := hO1.header.2.2.1
  rw [eW] at d2
  rw [ev] at kW
  have hmv : ∀ F : Nat → Prop, (∀ k, O.1 = some k → F k) → Moves F w w1 := fun F f1 => by
    rw [hw1]; exact (Moves.refl F w).store _ _ (f1 bO obO)
  have HFIN := Lib.hid hO1
  have HMV := Lib.hid hmv
  clear H hO1 sO hmv eO eW obO obW hm1 hv hR hrow hlen ev
  go_enter Try.func58, Try.ntmps58
  go_upto_region 1 with fail
  rw [← hw1]
  clear hw1
  go_wp2_with fail
  exact bodyPost_ret (v := .tuple #[]) (by simp [results, Try.results58, go_sem]) rfl ⟨rfl, HFIN.out, HMV.out⟩
/-- A copy of a row, in a new block. -/
theorem wpList_copyrow {ops : Array Oper} {rest : List Oper} {o : Oper} {a : Act} {Q : Exit → Act → World → Prop} (w : World)
    (hg : o.guard = none) (s x : Operand) (t : TypeId) (hop : o.op = Op.call { callee := Callee.builtin Builtin.append, args := #[s, x], argTypes := #[t, t] })
    (e : TypeId) (i : TypeInfo) (z : Value) (bytes : Nat) (h1 : Try.prog.underlying t = some (.slice e)) (h2 : Try.prog.info? e = some i) (h3 : i.zero = some z) (h4 : i.size = 1) (h5 : i.bytes = bytes) (h6 : z.cells.size = 1)
    {base : Nat} {ob : Option Nat} {v : Value} {l : List Int} (hR : RowIn w base 3 1 ob v (ints l)) (he : e = 3) (hs : a.eval s = .slice none 0 0) (hx : a.eval x = v)
    (b1 : l.length ≤ maxLen) (b2 : l.length * bytes ≤ 140737488355328) (hbase : base ≤ w.heap.size)
    (K : ∀ ob' A' n' c' w', RowIn w' base 3 1 ob' (.slice A' n' c') (ints l) → Below w.heap.size w w' → (ob' = none ∨ ∃ k, ob' = some k ∧ w.heap.size ≤ k) → wpList Try.prog ops Q rest (a.put o.dst (.slice A' n' c')) w') :
    wpList Try.prog ops Q (o :: rest) a w := by
  have hil : (ints l).length = l.length := by simp [ints]
  have hfl : (ints l).flatten.length = l.length := by rw [hR.flat_len, hil, Nat.mul_one]
  by_cases hl : l = []
  · subst hl
    obtain ⟨A, cap, rfl⟩ := RowIn.formNil (show RowIn w base 3 1 ob v [] from hR)
    have hrun : ∃ w', (Builtin.append_ #[t, t] o.type #[.slice none 0 0, .slice A 0 cap]).run Try.prog w = .ok (.slice none 0 0) w' ∧ Below w.heap.size w w' := by
      cases A with
      | none => exact ⟨w, by simp [Builtin.append_, run_underlying h1, sizeOf, typeInfo, h2, Builtin.lenOf, Builtin.firstCells], Below.refl _ _⟩
      | some ad =>
        obtain ⟨v', w', hrun, r1, r2, r3⟩ := run_append_own (P := Try.prog) w w.heap.size t o.type e i z 1 bytes h1 h2 h3 h4 h5 h6 (by decide) (.slice none 0 0) 0 [] (World.ownsRow_nil w _ e 1) ad 0 cap [] rfl (by simp) (by simp) (by simp) (by simp) (Nat.le_refl _)
        obtain rfl := r3.2 ⟨rfl, rfl⟩
        exact ⟨w', hrun, ⟨r2.os, r2.tape, r2.output, r2.size, fun k hk => r2.block k hk (show ¬ some k = none by simp)⟩⟩
    obtain ⟨w', hrun, hbl⟩ := hrun
    refine wpList_plain hg fun K' hK' => ?_
    unfold Oper.wp
    simp [execOp, hop, resolve, invoke, builtin, hs, hx, hrun, Result.andThen]
    exact hK' _ _ (K none none 0 0 w' ⟨fun c hc => by simp [ints] at hc, .inl ⟨rfl, rfl, rfl⟩⟩ hbl (.inl rfl))
  · rcases hR.2 with ⟨_, _, e2⟩ | ⟨b, off, cap, cs, rfl, rfl, hb, hcs, hle, hsz, hcell⟩
    · exact absurd (by simpa [ints] using e2) hl
    · have hpos : 0 < l.length := List.length_pos_iff.2 hl
      obtain ⟨v', w', hrun, r1, r2, _⟩ := run_append_own (P := Try.prog) w w.heap.size t o.type e i z 1 bytes h1 h2 h3 h4 h5 h6 (by decide) (.slice none 0 0) 0 [] (World.ownsRow_nil w _ e 1) ⟨b, off * 1, none⟩ l.length cap (ints l).flatten (by rw [hfl, Nat.mul_one]) (fun j u hu => by
        have hj : j < (ints l).length * 1 := by rw [hil, Nat.mul_one, ← hfl]; exact (List.getElem?_eq_some_iff.1 hu).1
        have := hcell j hj
        rw [Addr.add_lit]
        unfold World.cell?
        simp only [hcs]
        show cs[off * 1 + j]? = _
        rw [this, hu]) (fun u hu => by
        obtain ⟨c, hc, hu⟩ := List.mem_flatten.1 hu
        obtain ⟨y, _, rfl⟩ := List.mem_map.1 hc
        obtain rfl : u = .int .i64 y := by simpa using hu
        rfl) (by rw [Nat.zero_add]; exact b1) (by rw [Nat.zero_add]; exact b2) (Nat.le_refl _)
      rw [Nat.zero_add, List.nil_append] at r1
      have ho' : w'.ownsRow w.heap.size 3 1 v' (ints l).length (ints l).flatten := by rw [hil, ← he]; exact r1
      obtain ⟨bn, hbn, hr⟩ := RowIn.of_owns hR.1 (by rw [hil]; exact hpos) ho'
      have hr2 : RowIn w' base 3 1 (some bn) v' (ints l) := by
        refine ⟨hr.1, ?_⟩
        rcases hr.2 with ⟨e1, _⟩ | ⟨b2', off', cap', cs', e1, e2, e3, e4⟩
        · cases e1
        · exact .inr ⟨b2', off', cap', cs', e1, e2, by omega, e4⟩
      obtain ⟨A', n', c', rfl⟩ := hr2.slice
      have hrun2 : (Builtin.append_ #[t, t] o.type #[.slice none 0 0, .slice (some ⟨b, off, none⟩) (ints l).length cap]).run Try.prog w = .ok (.slice A' n' c') w' := by rw [hil, show (⟨b, off, none⟩ : Addr) = ⟨b, off * 1, none⟩ by rw [Nat.mul_one]]; exact hrun
      rw [Nat.mul_one] at hx
      refine wpList_plain hg fun K' hK' => ?_
      unfold Oper.wp
      simp [execOp, hop, resolve, invoke, builtin, hs, hx, hrun2, Result.andThen]
      exact hK' _ _ (K (some bn) A' n' c' w' hr2 ⟨r2.os, r2.tape, r2.output, r2.size, fun k hk => r2.block k hk (show ¬ some k = none by simp)⟩ (.inr ⟨bn, rfl, hbn⟩))
end Go.Proofs.Ytcfkmhmgappckaa

/- The document's come, where the mutex is held. No condition but on size. -/
namespace Go.Proofs.Ytcfkmhmgappckaa
open Go.RowKit Go.Proofs.Ytcfkmhmgappckaa.Sc Go.Proofs.Ytcfkmhmgappckaa.PAll Go.Proofs.YtcfkmhmgappckaaW.PrintWords Go.Proofs.YtcfkmhmgappckaaW.PrintLast Go.Proofs.YtcfkmhmgappckaaW.PrintMore

attribute [local go_sem ↓] Go.wp_at_zero Go.wp_at_succ
set_option maxHeartbeats 4000000 in
set_option maxRecDepth 100000 in
theorem rcome_held {w : World} {base h : Nat} {T O W R : Option Nat × Value} {vs us : List (Option Nat × Value)} {S : Sd} (H : IsR w base h T O W R vs us S) (hb : base ≤ w.heap.size) (t m : Nat) (ht : t < S.T.length) (hm : m < S.M.length) (hf : ¬ (S.M[m]).1 < 0) (hl : (S.M[m]).2.length ≤ 1000) :
    Calls Try.prog 57 #[.pointer (some ⟨h, 0, none⟩), .int .i64 (t : Int), .int .i64 (m : Int)] w fun e w' => e = .returned (.bool false) ∧ ∃ ob' v', (∃ k, ob' = some k ∧ w.heap.size ≤ k) ∧ IsR w' base h T O W R (vs.set m (ob', v')) us (setT (setM S m ((S.M[m]).1, (S.M[m]).2 ++ [(t : Int)])) t 1) ∧
      ∀ F : Nat → Prop, (∀ k, W.1 = some k → F k) → (∀ k, T.1 = some k → F k) → Moves F w w' := by
  obtain ⟨i0, hi, hz0, hz1, hz2⟩ := info_parts infoInt
  obtain ⟨bO, oO, cO, eO, kO, zO, nO, obO, sO⟩ := H.accO m hm
  obtain ⟨bW, oW, cW, ob, v, eW, hv, kW, zW, nW, obW, nob, nobh, hR, sW⟩ := H.accW m hm
  have d1 := H.header.2.1
  rw [eO] at d1
  have d2 := H.header.2.2.1
  rw [eW] at d2
  have g1 : ((m : Nat) : Int) < (S.M.length : Int) := by omega
  have g2 : ((t : Nat) : Int) < (S.T.length : Int) := by omega
  have hd : decide ((S.M[m]).1 < 0) = false := decide_eq_false hf
  have hil : (ints (S.M[m]).2).length = (S.M[m]).2.length := by simp [ints]
  have hb1 : (S.M[m]).2.length ≤ maxLen := by unfold maxLen; omega
  have hb2 : (S.M[m]).2.length * 8 ≤ 140737488355328 := by omega
  have hblt : bW < w.heap.size := by
    have := World.block_lt_of_cell? w _ kW; exact this
  obtain ⟨L, hL⟩ : ∃ L, L = (S.M[m]).2 := ⟨_, rfl⟩
  obtain ⟨ow, how⟩ : ∃ ow, ow = (S.M[m]).1 := ⟨_, rfl⟩
  rw [← hL] at hR hl hb1 hb2 hil ⊢
  rw [← how] at kO hd sW ⊢
  have HH := Lib.hid H
  have HR := Lib.hid hR
  have HSW := Lib.hid sW
  have HV := Lib.hid hv
  have HWE := Lib.hid eW
  have HOBW := Lib.hid obW
  clear H hR sW hv eW eO sO obO hL how obW
  go_enter Try.func57, Try.ntmps57
  go_wp2_with (at_builtin; refine wpList_copyrow _ rfl (.tmp 29) (.tmp 36) 22 rfl 3 i0 (.int .i64 0) 8 Try.underlying22 hi hz0 hz1 hz2 rfl HR.out rfl rfl rfl hb1 hb2 hb ?_)
  intro ob1 A1 n1 c1 w1 hR1 hbl1 hob1
  have hsz1 : base ≤ w1.heap.size := Nat.le_trans hb hbl1.size
  have d3 : w1.cell? ⟨h, 2, none⟩ = some (.slice (some ⟨bW, oW, none⟩) S.M.length cW) := by rw [hbl1.cell (World.block_lt_of_cell? w _ d2)]; exact d2
  have q1 := (World.cell?_alloc_some w1 _ (Obj.cells #[Value.int IntKind.i64 ↑t] 3 (0, 0)) (by rw [d3]; rfl)).trans d3
  have hk2 : ∀ (o : Obj) k, k < w1.heap.size → (w1.drew.alloc o).heap[k]? = w1.heap[k]? := fun o k hk => (Below.refl w1.heap.size w1.drew).alloc (Nat.le_refl _) o |>.block k hk
  have hRW : ∀ o : Obj, RowIn (w1.drew.alloc o) base 3 1 ob1 (.slice A1 n1 c1) (ints L) := fun o => hR1.same (fun b hb => hk2 o b (hR1.lt b hb).2)
  have hbW : ∀ o : Obj, base ≤ (w1.drew.alloc o).heap.size := fun o => Nat.le_trans hsz1 (by simp)
  have hc0 : ∀ j u, [Value.int .i64 (t : Int)][j]? = some u → (w1.drew.alloc (Obj.cells #[Value.int IntKind.i64 ↑t] 3 (0, 0))).cell? ((⟨w1.heap.size, 0, none⟩ : Addr).add j) = some u := by
    intro j u hj
    cases j with
    | zero => simp at hj; subst hj; rw [Addr.add_lit]; exact cell_new _ _ _ _ rfl
    | succ j => simp at hj
  have hone : ∀ u ∈ [Value.int .i64 (t : Int)], u.oneCell' = true := by simp [Value.oneCell']
  have hb3 : (ints L).length + 1 ≤ maxLen := by unfold maxLen; omega
  have hb4 : ((ints L).length + 1) * 8 ≤ 140737488355328 := by omega
  -- behind the push: as seen from the beginning
  have hgr : ∀ w2, (w1.drew.alloc (Obj.cells #[Value.int IntKind.i64 ↑t] 3 (0, 0))).grownBy w2 ob1 → w.grownBy w2 ob := by
    intro w2 hg
    refine ⟨hg.os.trans hbl1.os, hg.tape.trans hbl1.tape, hg.output.trans hbl1.output, Nat.le_trans hbl1.size (Nat.le_trans (by simp) hg.size), fun k hk hne => ?_⟩
    have hk1 : k < w1.heap.size := Nat.lt_of_lt_of_le hk hbl1.size
    rw [hg.block k (Nat.lt_of_lt_of_le hk1 (by simp)) (fun e => ?_), hk2 _ k hk1, hbl1.block k hk]
    rcases hob1 with e2 | ⟨k2, e2, hk3⟩
    · rw [e2] at e; cases e
    · rw [e2] at e; cases e; omega
  have hmvW : ∀ w2, (w1.drew.alloc (Obj.cells #[Value.int IntKind.i64 ↑t] 3 (0, 0))).grownBy w2 ob1 → ∀ F : Nat → Prop, Moves F w w2 := by
    intro w2 hg F
    refine ⟨hg.os.trans hbl1.os, hg.tape.trans hbl1.tape, hg.output.trans hbl1.output, Nat.le_trans hbl1.size (Nat.le_trans (by simp) hg.size), fun k hk _ => ?_⟩
    have hk1 : k < w1.heap.size := Nat.lt_of_lt_of_le hk hbl1.size
    rw [hg.block k (Nat.lt_of_lt_of_le hk1 (by simp)) (fun e => ?_), hk2 _ k hk1, hbl1.block k hk]
    rcases hob1 with e2 | ⟨k2, e2, hk3⟩
    · rw [e2] at e; cases e
    · rw [e2] at e; cases e; omega
  have hfacts : ∀ ob2 v2 w2, (w1.drew.alloc (Obj.cells #[Value.int IntKind.i64 ↑t] 3 (0, 0))).grownBy w2 ob1 → RowIn w2 base 3 1 ob2 v2 (ints L ++ [[.int .i64 (t : Int)]]) → (ob2 = ob1 ∨ ∃ k, ob2 = some k ∧ (w1.drew.alloc (Obj.cells #[Value.int IntKind.i64 ↑t] 3 (0, 0))).heap.size ≤ k) →
      (∃ k, ob2 = some k ∧ w.heap.size ≤ k) ∧ w2.cell? ⟨bW, oW + m, none⟩ = some v ∧ w2.frozen? ⟨bW, oW + m, none⟩ = false ∧ w2.cell? ⟨h, 2, none⟩ = some (.slice (some ⟨bW, oW, none⟩) S.M.length cW) ∧ IsR (w2.setCell ⟨bW, oW + m, none⟩ v2) base h T O W R (vs.set m (ob2, v2)) us (setM S m (ow, L ++ [(t : Int)])) := by
    intro ob2 v2 w2 hg hR2 hob2
    have he : ints L ++ [[.int .i64 (t : Int)]] = ints (L ++ [(t : Int)]) := by simp [ints]
    rw [he] at hR2
    have hk : ∃ k, ob2 = some k ∧ w.heap.size ≤ k := by
      rcases hob2 with e | ⟨k, e, hk⟩
      · rcases hob1 with e2 | ⟨k, e2, hk⟩
        · rw [e2] at e
          rcases hR2.2 with ⟨_, _, e3⟩ | ⟨b, _, _, _, e3, _⟩
          · simp [ints] at e3
          · rw [e] at e3; cases e3
        · exact ⟨k, e.trans e2, hk⟩
      · exact ⟨k, e, Nat.le_trans hbl1.size (Nat.le_trans (by simp) hk)⟩
    obtain ⟨a1, a2, a3, a4⟩ := HSW.out w2 ob2 v2 _ (hgr w2 hg) hR2 (.inr (.inr hk))
    rw [HWE.out] at a3
    exact ⟨hk, a1, a2, a3, a4⟩
  have HRW := Lib.hid hRW
  have HBW := Lib.hid hbW
  have HC0 := Lib.hid hc0
  have HFA := Lib.hid hfacts
  have HMW := Lib.hid hmvW
  clear hRW hbW hc0 hfacts hmvW hgr hk2 hR1 hob1 hbl1 HR HSW
  go_upto_region 7 with fail
  go_region_law ((refine step_push rfl (.tmp 43) (.tmp 45) 22 rfl 3 i0 (.int .i64 0) 1 8 Try.underlying22 hi hz0 hz1 hz2 rfl (by decide) (HRW.out _) rfl ⟨w1.heap.size, 0, none⟩ 1 [.int .i64 (t : Int)] rfl rfl HC0.out hone hb3 hb4 (HBW.out _) ?_; intro ob2 A2 n2 c2 w2 hR2 hgrow hob2; obtain ⟨y0, y1, y2, y3, y4⟩ := HFA.out _ _ _ hgrow hR2 hob2))
  all_goals
    have hmv2 := HMW.out w2 hgrow
    obtain ⟨w3, hw3⟩ : ∃ w3, w3 = w2.setCell ⟨bW, oW + m, none⟩ (.slice A2 n2 c2) := ⟨_, rfl⟩
    rw [← hw3] at y4 ⊢
    have ht1 : t < (setM S m (ow, L ++ [(t : Int)])).T.length := ht
    obtain ⟨bT, oT, cT, eT, kT, zT, nT, obT, sT⟩ := y4.accT t ht1
    have d0 := y4.header.1
    rw [eT] at d0
    have hfin := sT 1
    have hmv : ∀ F : Nat → Prop, (∀ k, W.1 = some k → F k) → (∀ k, T.1 = some k → F k) → Moves F w (w3.setCell ⟨bT, oT + t, none⟩ (.int .i64 1)) := fun F f1 f2 => by
      rw [hw3]; exact ((hmv2 F).store _ _ (f1 bW HOBW.out)).store _ _ (f2 bT obT)
    have HFIN := Lib.hid hfin
    have HMV := Lib.hid hmv
    have HK := Lib.hid y0
    obtain ⟨x0, hx0⟩ : ∃ x0, x0 = (setM S ((m : Nat) : Int) (ow, L ++ [(t : Int)])).T[t]'ht1 := ⟨_, rfl⟩
    rw [← hx0] at kT
    clear y0 y1 y2 y3 y4 sT hfin hmv hmv2 hw3 hgrow hR2 hob2 eT obT hx0
    go_wp2_with fail
    go_ret
    exact ⟨rfl, _, _, HK.out, HFIN.out, HMV.out⟩
end Go.Proofs.Ytcfkmhmgappckaa

/- The document's give, where one waits; come and give at large. No condition but on size. -/
namespace Go.Proofs.Ytcfkmhmgappckaa
open Go.RowKit Go.Proofs.Ytcfkmhmgappckaa.Sc Go.Proofs.Ytcfkmhmgappckaa.PAll Go.Proofs.YtcfkmhmgappckaaW.PrintWords Go.Proofs.YtcfkmhmgappckaaW.PrintLast Go.Proofs.YtcfkmhmgappckaaW.PrintMore

def RGive (w w' : World) (base h : Nat) (T O W R : Option Nat × Value) (vs us : List (Option Nat × Value)) (m : Nat) (S' : Sd) : Prop :=
  ∃ ob v0 v', vs[m]? = some (ob, v0) ∧ IsR w' base h T O W R (vs.set m (ob, v')) us S' ∧ ∀ F : Nat → Prop, (∀ k, O.1 = some k → F k) → (∀ k, W.1 = some k → F k) → (∀ k, T.1 = some k → F k) → Moves F w w'
set_option maxHeartbeats 2000000 in
set_option maxRecDepth 100000 in
theorem rgive_cons {w : World} {base h : Nat} {T O W R : Option Nat × Value} {vs us : List (Option Nat × Value)} {S : Sd} (H : IsR w base h T O W R vs us S) (m t : Nat) (r : List Int) (hm : m < S.M.length) (hr : (S.M[m]).2 = (t : Int) :: r) (ht : t < S.T.length) :
    Calls Try.prog 58 #[.pointer (some ⟨h, 0, none⟩), .int .i64 (m : Int)] w fun e w' => e = .returned (.tuple #[]) ∧ RGive w w' base h T O W R vs us m (setT (setM S m ((t : Int), r)) t 0) := by
  obtain ⟨bO, oO, cO, eO, kO, zO, nO, obO, sO⟩ := H.accO m hm
  have d1 := H.header.2.1
  rw [eO] at d1
  have g1 : ((m : Nat) : Int) < (S.M.length : Int) := by omega
  have hO1 := sO (-1)
  obtain ⟨w1, hw1⟩ : ∃ w1, w1 = w.setCell ⟨bO, oO + m, none⟩ (.int .i64 (-1)) := ⟨_, rfl⟩
  rw [← hw1] at hO1
  have hm1 : m < (setM S (m : Int) (-1, (S.M[m]).2)).M.length := by simpa [Sc.setM] using hm
  obtain ⟨bW, oW, cW, ob, v, eW, hv, kW, zW, nW, obW, nob, nobh, hR, hset⟩ := hO1.accW m hm1
  have hrow : ((setM S (m : Int) (-1, (S.M[m]).2)).M[m]'hm1) = (-1, (t : Int) :: r) := by simp [Sc.setM, hr]
  rw [hrow] at hR
  have hR0 : RowIn w1 base 3 1 ob v ([.int .i64 (t : Int)] :: ints r) := hR
  obtain ⟨b, o, cap, e1, e2, hcap⟩ := RowIn.form hR0
  have hil : (ints r).length = r.length := by simp [ints]
  rw [hil] at e2 hcap
  rw [e1, e2] at hR0
  have dh := RowIn.head hR0
  have hR2 := RowIn.tail hR0
  have hlen : (setM S (m : Int) (-1, (S.M[m]).2)).M.length = S.M.length := by simp [Sc.setM]
  rw [hlen] at eW
  have d2 := hO1.header.2.2.1
  rw [eW] at d2
  rw [e2] at kW
  rw [Nat.add_sub_cancel] at hR2
  have hI2 := (hset w1 (some b) _ r (grown_refl _ _) hR2 (.inr (.inl e1.symm))).2.2.2
  rw [hrow] at hI2
  have hS2 : setM (setM S (m : Int) (-1, (S.M[m]).2)) (m : Int) (-1, r) = setM S (m : Int) (-1, r) := by simp [Sc.setM]
  rw [hS2] at hI2
  have hmv1 : ∀ F : Nat → Prop, (∀ k, O.1 = some k → F k) → Moves F w w1 := fun F f1 => by
    rw [hw1]; exact (Moves.refl F w).store _ _ (f1 bO obO)
  have HMV1 := Lib.hid hmv1
  have HOBW := Lib.hid obW
  have HV := Lib.hid hv
  have HE1 := Lib.hid e1
  have nb : ¬ bW = b := fun e => nob (by rw [e1, e])
  clear hset hR hR0 hR2 hrow hS2 hlen hO1 sO eO eW obW hv e1 e2 hmv1 hil hr
  have main : ∀ o' : Nat, (if cap = 1 then o else o + 1) = o' → IsR (w1.setCell ⟨bW, oW + m, none⟩ (.slice (some ⟨b, o', none⟩) r.length (cap - 1))) base h T O W R (vs.set m (some b, .slice (some ⟨b, o', none⟩) r.length (cap - 1))) us (setM S m (-1, r)) := fun o' e => by rw [← e]; exact hI2
  clear hI2
  have hcases : (cap = 1 ∧ r = []) ∨ 2 ≤ cap := by
    by_cases hc : cap = 1
    · exact .inl ⟨hc, List.eq_nil_of_length_eq_zero (by omega)⟩
    · exact .inr (by omega)
  rcases hcases with ⟨rfl, rfl⟩ | hc2
  · simp only [List.length_nil, Nat.zero_add] at kW hcap
    have hI2 : IsR (w1.setCell ⟨bW, oW + m, none⟩ (.slice (some ⟨b, o, none⟩) 0 0)) base h T O W R (vs.set m (some b, .slice (some ⟨b, o, none⟩) 0 0)) us (setM S m (-1, [])) := main _ (if_pos rfl)
    have hI3 := hI2.kept (Below.refl _ _).drew
    obtain ⟨w2, hw2⟩ : ∃ w2, w2 = (w1.setCell ⟨bW, oW + m, none⟩ (.slice (some ⟨b, o, none⟩) 0 0)).drew := ⟨_, rfl⟩
    rw [← hw2] at hI3
    have hmv2 : ∀ F : Nat → Prop, (∀ k, O.1 = some k → F k) → (∀ k, W.1 = some k → F k) → Moves F w w2 := fun F f1 f2 => by
      rw [hw2]; exact ((HMV1.out F f1).store ⟨bW, oW + m, none⟩ _ (f2 bW HOBW.out)).below (Below.refl _ _).drew
    have hm2 : m < (setM S (m : Int) (-1, [])).M.length := by simpa [Sc.setM] using hm
    obtain ⟨bO2, oO2, cO2, eO2, kO2, zO2, nO2, obO2, sO2⟩ := hI3.accO m hm2
    have d3 := hI3.header.2.1
    rw [eO2, show (setM S (m : Int) (-1, [])).M.length = S.M.length by simp [Sc.setM]] at d3
    have hI4 := sO2 (t : Int)
    have hrow2 : ((setM S (m : Int) (-1, [])).M[m]'hm2) = (-1, []) := by simp [Sc.setM]
    rw [hrow2] at hI4 kO2
    rw [show setM (setM S (m : Int) (-1, [])) (m : Int) ((t : Int), (-1, []).2) = setM S (m : Int) ((t : Int), []) by simp [Sc.setM]] at hI4
    obtain ⟨w3, hw3⟩ : ∃ w3, w3 = w2.setCell ⟨bO2, oO2 + m, none⟩ (.int .i64 (t : Int)) := ⟨_, rfl⟩
    rw [← hw3] at hI4
    have ht4 : t < (setM S (m : Int) ((t : Int), [])).T.length := ht
    obtain ⟨bT, oT, cT, eT, kT, zT, nT, obT, sT⟩ := hI4.accT t ht4
    have d5 := hI4.header.1
    rw [eT] at d5
    have g2 : ((t : Nat) : Int) < (S.T.length : Int) := by omega
    have hfin := sT 0
    have hmv : ∀ F : Nat → Prop, (∀ k, O.1 = some k → F k) → (∀ k, W.1 = some k → F k) → (∀ k, T.1 = some k → F k) → Moves F w (w3.setCell ⟨bT, oT + t, none⟩ (.int .i64 0)) := fun F f1 f2 f3 => by
      rw [hw3]; exact ((hmv2 F f1 f2).store _ _ (f1 bO2 obO2)).store _ _ (f3 bT obT)
    have HFIN := Lib.hid hfin
    have HMV := Lib.hid hmv
    obtain ⟨x0, hx0⟩ : ∃ x0, x0 = (setM S ((m : Nat) : Int) ((t : Int), [])).T[t]'ht4 := ⟨_, rfl⟩
    rw [← hx0] at kT
    clear main hI2 hI3 hI4 sO2 sT hfin hmv hmv2 eO2 eT obO2 obT hx0 hrow2 HMV1 HOBW H
    go_enter Try.func58, Try.ntmps58
    go_upto_region 1 with fail
    rw [← hw1]
    clear hw1
    go_upto_region 3 with fail
    go_region
    go_upto_region 4 with fail
    rw [← hw2]
    clear hw2
    go_upto_region 5 with fail
    rw [← hw3]
    clear hw3
    go_wp2_with fail
    go_end0
    exact ⟨rfl, ob, v, _, HV.out, by rw [HE1.out]; exact HFIN.out, HMV.out⟩
  · have hI2 : IsR (w1.setCell ⟨bW, oW + m, none⟩ (.slice (some ⟨b, o + 1, none⟩) r.length (cap - 1))) base h T O W R (vs.set m (some b, .slice (some ⟨b, o + 1, none⟩) r.length (cap - 1))) us (setM S m (-1, r)) := main _ (if_neg (by omega))
    have hI3 := hI2.kept (Below.refl _ _).drew
    obtain ⟨w2, hw2⟩ : ∃ w2, w2 = (w1.setCell ⟨bW, oW + m, none⟩ (.slice (some ⟨b, o + 1, none⟩) r.length (cap - 1))).drew := ⟨_, rfl⟩
    rw [← hw2] at hI3
    have hmv2 : ∀ F : Nat → Prop, (∀ k, O.1 = some k → F k) → (∀ k, W.1 = some k → F k) → Moves F w w2 := fun F f1 f2 => by
      rw [hw2]; exact ((HMV1.out F f1).store ⟨bW, oW + m, none⟩ _ (f2 bW HOBW.out)).below (Below.refl _ _).drew
    have hm2 : m < (setM S (m : Int) (-1, r)).M.length := by simpa [Sc.setM] using hm
    obtain ⟨bO2, oO2, cO2, eO2, kO2, zO2, nO2, obO2, sO2⟩ := hI3.accO m hm2
    have d3 := hI3.header.2.1
    rw [eO2, show (setM S (m : Int) (-1, r)).M.length = S.M.length by simp [Sc.setM]] at d3
    have hI4 := sO2 (t : Int)
    have hrow2 : ((setM S (m : Int) (-1, r)).M[m]'hm2) = (-1, r) := by simp [Sc.setM]
    rw [hrow2] at hI4 kO2
    rw [show setM (setM S (m : Int) (-1, r)) (m : Int) ((t : Int), (-1, r).2) = setM S (m : Int) ((t : Int), r) by simp [Sc.setM]] at hI4
    obtain ⟨w3, hw3⟩ : ∃ w3, w3 = w2.setCell ⟨bO2, oO2 + m, none⟩ (.int .i64 (t : Int)) := ⟨_, rfl⟩
    rw [← hw3] at hI4
    have ht4 : t < (setM S (m : Int) ((t : Int), r)).T.length := ht
    obtain ⟨bT, oT, cT, eT, kT, zT, nT, obT, sT⟩ := hI4.accT t ht4
    have d5 := hI4.header.1
    rw [eT] at d5
    have g2 : ((t : Nat) : Int) < (S.T.length : Int) := by omega
    have hfin := sT 0
    have hmv : ∀ F : Nat → Prop, (∀ k, O.1 = some k → F k) → (∀ k, W.1 = some k → F k) → (∀ k, T.1 = some k → F k) → Moves F w (w3.setCell ⟨bT, oT + t, none⟩ (.int .i64 0)) := fun F f1 f2 f3 => by
      rw [hw3]; exact ((hmv2 F f1 f2).store _ _ (f1 bO2 obO2)).store _ _ (f3 bT obT)
    have HFIN := Lib.hid hfin
    have HMV := Lib.hid hmv
    obtain ⟨x0, hx0⟩ : ∃ x0, x0 = (setM S ((m : Nat) : Int) ((t : Int), r)).T[t]'ht4 := ⟨_, rfl⟩
    rw [← hx0] at kT
    clear main hI2 hI3 hI4 sO2 sT hfin hmv hmv2 eO2 eT obO2 obT hx0 hrow2 HMV1 HOBW H
    go_enter Try.func58, Try.ntmps58
    go_upto_region 1 with fail
    rw [← hw1]
    clear hw1
    go_upto_region 3 with fail
    go_region
    go_upto_region 4 with fail
    rw [← hw2]
    clear hw2
    go_upto_region 5 with fail
    rw [← hw3]
    clear hw3
    go_wp2_with fail
    go_end0
    exact ⟨rfl, ob, v, _, HV.out, by rw [HE1.out]; exact HFIN.out, HMV.out⟩
end Go.Proofs.Ytcfkmhmgappckaa

/- The document's come and give at large; what may not be. No condition but on size. -/
namespace Go.Proofs.Ytcfkmhmgappckaa
open Go.RowKit Go.Proofs.Ytcfkmhmgappckaa.Sc Go.Proofs.Ytcfkmhmgappckaa.PAll Go.Proofs.YtcfkmhmgappckaaW.PrintWords Go.Proofs.YtcfkmhmgappckaaW.PrintLast Go.Proofs.YtcfkmhmgappckaaW.PrintMore

theorem obs_set {T O W R : Option Nat × Value} {vs us : List (Option Nat × Value)} {m : Nat} {y x : Option Nat × Value} (hx : x ∈ Obs T O W R (vs.set m y) us) : x ∈ Obs T O W R vs us ∨ x = y := by
  rcases List.mem_append.1 hx with hx | hx
  · exact .inl (List.mem_append.2 (.inl hx))
  · rcases List.mem_append.1 hx with hx | hx
    · rcases List.mem_or_eq_of_mem_set hx with hx | rfl
      · exact .inl (List.mem_append.2 (.inr (List.mem_append.2 (.inl hx))))
      · exact .inr rfl
    · exact .inl (List.mem_append.2 (.inr (List.mem_append.2 (.inr hx))))
theorem obs_setU {T O W R : Option Nat × Value} {vs us : List (Option Nat × Value)} {m : Nat} {y x : Option Nat × Value} (hx : x ∈ Obs T O W R vs (us.set m y)) : x ∈ Obs T O W R vs us ∨ x = y := by
  rcases List.mem_append.1 hx with hx | hx
  · exact .inl (List.mem_append.2 (.inl hx))
  · rcases List.mem_append.1 hx with hx | hx
    · exact .inl (List.mem_append.2 (.inr (List.mem_append.2 (.inl hx))))
    · rcases List.mem_or_eq_of_mem_set hx with hx | rfl
      · exact .inl (List.mem_append.2 (.inr (List.mem_append.2 (.inr hx))))
      · exact .inr rfl
theorem obs_T {T O W R : Option Nat × Value} {vs us : List (Option Nat × Value)} : T ∈ Obs T O W R vs us ∧ O ∈ Obs T O W R vs us ∧ W ∈ Obs T O W R vs us ∧ R ∈ Obs T O W R vs us := by
  simp [Obs]
theorem obs_v {T O W R : Option Nat × Value} {vs us : List (Option Nat × Value)} {m : Nat} {x : Option Nat × Value} (hx : vs[m]? = some x) : x ∈ Obs T O W R vs us := by
  have := List.mem_of_getElem? hx
  simp [Obs, this]
theorem obs_u {T O W R : Option Nat × Value} {vs us : List (Option Nat × Value)} {m : Nat} {x : Option Nat × Value} (hx : us[m]? = some x) : x ∈ Obs T O W R vs us := by
  have := List.mem_of_getElem? hx
  simp [Obs, this]
theorem mu_nat (S : Sd) (m : Nat) (hm : m < S.M.length) : mu S (m : Int) = S.M[m] := by
  unfold mu; rw [Int.toNat_natCast, List.getD_eq_getElem?_getD, List.getElem?_eq_getElem hm]; rfl
theorem rcome_any {w : World} {base h : Nat} {F : Nat → Prop} {S : Sd} (H : Rch w base h F S) (hb : base ≤ w.heap.size) (t m : Int) (ht : there S.T t = true) (hm : there S.M m = true) (hl : (mu S m).2.length ≤ 1000) (ho : (mu S m).1 = -1 ∨ 0 ≤ (mu S m).1) :
    Calls Try.prog 57 #[.pointer (some ⟨h, 0, none⟩), .int .i64 t, .int .i64 m] w fun e w' => e = .returned (.bool (come S t m).2) ∧ NextR w base h F (come S t m).1 w' := by
  have ht1 := (there_iff _ _).1 ht
  have hm1 := (there_iff _ _).1 hm
  obtain ⟨t, rfl⟩ := Int.eq_ofNat_of_zero_le ht1.1
  obtain ⟨m, rfl⟩ := Int.eq_ofNat_of_zero_le hm1.1
  have hm2 : m < S.M.length := by omega
  have ht2 : t < S.T.length := by omega
  have hmu := mu_nat S m hm2
  rw [hmu] at hl ho
  obtain ⟨T, O, W, R, vs, us, hI, fh, fx⟩ := H.2
  unfold come
  rw [hmu]
  by_cases hf : (S.M[m]).1 = -1
  · rw [if_pos hf]
    refine (rcome_free hI t m ht2 hm2 (by omega)).mono ?_
    rintro e w' ⟨rfl, h1, h2⟩
    exact ⟨rfl, H.next hb h1 (h2 F (fx O obs_T.2.1) (fx T obs_T.1)) fh (fun x hx k hk => .inl (fx x hx k hk))⟩
  · rw [if_neg hf]
    refine (rcome_held hI hb t m ht2 hm2 (by omega) hl).mono ?_
    rintro e w' ⟨rfl, ob', v', ⟨k0, hob, hk0⟩, h1, h2⟩
    refine ⟨rfl, H.next hb h1 (h2 F (fx W obs_T.2.2.1) (fx T obs_T.1)) fh (fun x hx k hk => ?_)⟩
    rcases obs_set hx with hx | rfl
    · exact .inl (fx x hx k hk)
    · refine .inr ?_
      have : some k0 = some k := hob.symm.trans hk
      cases this; exact hk0
theorem rgive_any {w : World} {base h : Nat} {F : Nat → Prop} {S : Sd} (H : Rch w base h F S) (hb : base ≤ w.heap.size) (m : Int) (hm : there S.M m = true) (ht : ∀ t r, (mu S m).2 = t :: r → there S.T t = true) :
    Calls Try.prog 58 #[.pointer (some ⟨h, 0, none⟩), .int .i64 m] w fun e w' => e = .returned (.tuple #[]) ∧ NextR w base h F (give S m) w' := by
  have hm1 := (there_iff _ _).1 hm
  obtain ⟨m, rfl⟩ := Int.eq_ofNat_of_zero_le hm1.1
  have hm2 : m < S.M.length := by omega
  have hmu := mu_nat S m hm2
  obtain ⟨T, O, W, R, vs, us, hI, fh, fx⟩ := H.2
  cases hr : (mu S (m : Int)).2 with
  | nil =>
    have e : give S m = setM S m (-1, []) := by unfold give; rw [hr]
    rw [e]
    refine (rgive_nil hI m hm2 (by rw [← hmu]; exact hr)).mono ?_
    rintro e w' ⟨rfl, h1, h2⟩
    exact ⟨rfl, H.next hb h1 (h2 F (fx O obs_T.2.1)) fh (fun x hx k hk => .inl (fx x hx k hk))⟩
  | cons t r =>
    have ht1 := (there_iff _ _).1 (ht t r hr)
    obtain ⟨t, rfl⟩ := Int.eq_ofNat_of_zero_le ht1.1
    rw [give_set S m t r hm hr]
    refine (rgive_cons hI m t r hm2 (by rw [← hmu]; exact hr) (by omega)).mono ?_
    rintro e w' ⟨rfl, ob, v0, v', hv, h1, h2⟩
    refine ⟨rfl, H.next hb h1 (h2 F (fx O obs_T.2.1) (fx W obs_T.2.2.1) (fx T obs_T.1)) fh (fun x hx k hk => ?_)⟩
    rcases obs_set hx with hx | rfl
    · exact .inl (fx x hx k hk)
    · exact .inl (fx _ (obs_v hv) k hk)
/-- What is told of a task that must be ready, of a mutex (-2: none) that must be its own, or not, of a condition (-2: none). -/
def mayE (S : Sd) (t m : Int) (own : Bool) (c : Int) : Int :=
  if !there S.T t then 1 else if decide (m ≠ -2) && !there S.M m then 1 else if decide (c ≠ -2) && !there S.R c then 1
  else if decide (stT S t ≠ 0) || (decide (m ≠ -2) && (decide (owner S m = t) != own)) then 12 else 0
def some2 (n : Int) : Int := if n = -2 then -1 else n
theorem some_any (n : Int) (w : World) : Calls Try.prog 56 #[.int .i64 n] w fun e w' => e = .returned (.int .i64 (some2 n)) ∧ Below w.heap.size w w' := by
  refine (concordanceref19_some.calls n (some2 n) w (by unfold concordanceref19_some.f some2; split <;> rfl)).mono (fun e w' h => ?_)
  exact ⟨h.1, h.2.below⟩
end Go.Proofs.Ytcfkmhmgappckaa

/- The document's may. No condition but on size. -/
namespace Go.Proofs.Ytcfkmhmgappckaa
open Go.RowKit Go.Proofs.Ytcfkmhmgappckaa.Sc Go.Proofs.Ytcfkmhmgappckaa.PAll Go.Proofs.YtcfkmhmgappckaaW.PrintWords Go.Proofs.YtcfkmhmgappckaaW.PrintLast Go.Proofs.YtcfkmhmgappckaaW.PrintMore

theorem there_no {α : Type} (l : List α) (i : Int) (h : i < 0 ∨ (l.length : Int) ≤ i) : there l i = false := by
  unfold there; rw [Bool.and_eq_false_iff, decide_eq_false_iff_not, decide_eq_false_iff_not]; omega
theorem there_yes {α : Type} (l : List α) (i : Int) (h0 : 0 ≤ i) (h : i < (l.length : Int)) : there l i = true := (there_iff _ _).2 ⟨h0, h⟩
theorem stT_nat (S : Sd) (t : Nat) (ht : t < S.T.length) : stT S (t : Int) = S.T[t] := by
  unfold stT; rw [there_yes _ _ (by omega) (by omega), if_pos rfl, Int.toNat_natCast, List.getD_eq_getElem?_getD, List.getElem?_eq_getElem ht]; rfl
theorem owner_nat (S : Sd) (m : Nat) (hm : m < S.M.length) : owner S (m : Int) = (S.M[m]).1 := by
  unfold owner; rw [there_yes _ _ (by omega) (by omega), if_pos rfl, mu_nat S m hm]
set_option maxHeartbeats 4000000 in
set_option maxRecDepth 100000 in
theorem may_any {w : World} {base h : Nat} {F : Nat → Prop} {S : Sd} (H : Rch w base h F S) (lT : S.T.length ≤ 1000) (lM : S.M.length ≤ 1000) (lR : S.R.length ≤ 1000) (t m : Int) (own : Bool) (c : Int) :
    Calls Try.prog 55 #[.pointer (some ⟨h, 0, none⟩), .int .i64 t, .int .i64 m, .bool own, .int .i64 c] w fun e w' => e = .returned (.int .i64 (mayE S t m own c)) ∧ w = w' := by
  obtain ⟨T, O, W, R, vs, us, hI, _, _⟩ := H.2
  clear H
  obtain ⟨⟨A1, c1, e1⟩, ⟨A2, c2, e2⟩, _, ⟨A4, c4, e4⟩⟩ := hI.vals
  obtain ⟨d0, d1, _, d3⟩ := hI.header
  rw [e1] at d0
  rw [e2] at d1
  rw [e4] at d3
  have ht3 : t < 0 ∨ (0 ≤ t ∧ (S.T.length : Int) ≤ t) ∨ (0 ≤ t ∧ t < (S.T.length : Int)) := by omega
  rcases ht3 with ht | ht | ht
  · have hth := there_no S.T t (.inl ht)
    have b1 : decide (t < 0) = true := decide_eq_true ht
    have hE : mayE S t m own c = 1 := by
      unfold mayE; simp [hth]
    rw [hE]
    clear hE hI e1 e2 e4
    go_enter Try.func55, Try.ntmps55
    go_wp2_with fail
    go_ret
    exact ⟨rfl, rfl⟩
  · have hth := there_no S.T t (.inr ht.2)
    have b1 : decide (t < 0) = false := decide_eq_false (by omega)
    have b2 : decide ((S.T.length : Int) ≤ t) = true := decide_eq_true ht.2
    have hE : mayE S t m own c = 1 := by
      unfold mayE; simp [hth]
    rw [hE]
    clear hE hI e1 e2 e4
    go_enter Try.func55, Try.ntmps55
    go_wp2_with fail
    go_ret
    exact ⟨rfl, rfl⟩
  · have hth := there_yes S.T t ht.1 ht.2
    have b1 : decide (t < 0) = false := decide_eq_false (by omega)
    have b2 : decide ((S.T.length : Int) ≤ t) = false := decide_eq_false (by omega)
    have hm3 : m = -2 ∨ (m ≠ -2 ∧ m < 0) ∨ (m ≠ -2 ∧ 0 ≤ m ∧ (S.M.length : Int) ≤ m) ∨ (m ≠ -2 ∧ 0 ≤ m ∧ m < (S.M.length : Int)) := by omega
    have hc3 : c = -2 ∨ (c ≠ -2 ∧ c < 0) ∨ (c ≠ -2 ∧ 0 ≤ c ∧ (S.R.length : Int) ≤ c) ∨ (c ≠ -2 ∧ 0 ≤ c ∧ c < (S.R.length : Int)) := by omega
    obtain ⟨t, rfl⟩ := Int.eq_ofNat_of_zero_le ht.1
    have ht2 : t < S.T.length := by omega
    have g1 : ((t : Nat) : Int) < (S.T.length : Int) := by omega
    obtain ⟨bT, oT, cT, eT, kT, _, _, _, kset⟩ := hI.accT t ht2
    clear kset
    rw [e1] at eT
    obtain rfl : A1 = some ⟨bT, oT, none⟩ := (Value.slice.inj eT).1
    have hst := stT_nat S t ht2
    obtain ⟨x, hx⟩ : ∃ x, x = S.T[t] := ⟨_, rfl⟩
    rw [← hx] at kT hst
    clear ht hx eT
    rcases hm3 with rfl | hm | hm | hm
    · skip
      rcases hc3 with rfl | hc | hc | hc
      · by_cases h0 : x = 0
        · have b7 : (x != 0) = false := by simp [h0]
          have hE : mayE S t (-2) own (-2) = 0 := by
            unfold mayE; simp [hth, hst, h0]
          rw [hE]
          clear hE hI e1 e2 e4 hst h0
          go_enter Try.func55, Try.ntmps55
          go_wp2_with fail
          go_ret
          exact ⟨rfl, rfl⟩
        · have b7 : (x != 0) = true := by simp [h0]
          have hE : mayE S t (-2) own (-2) = 12 := by
            unfold mayE; simp [hth, hst, h0]
          rw [hE]
          clear hE hI e1 e2 e4 hst h0
          go_enter Try.func55, Try.ntmps55
          go_wp2_with fail
          go_ret
          exact ⟨rfl, rfl⟩
      · have hcn : (c != -2) = true := by simpa using hc.1
        have hcr := there_no S.R c (.inl hc.2)
        have b5 : decide (c < 0) = true := decide_eq_true hc.2
        have hE : mayE S t (-2) own c = 1 := by
          unfold mayE; simp [hth, hcr, hc.1]
        rw [hE]
        clear hE hI e1 e2 e4 hst
        go_enter Try.func55, Try.ntmps55
        go_wp2_with fail
        go_ret
        exact ⟨rfl, rfl⟩
      · have hcn : (c != -2) = true := by simpa using hc.1
        have hcr := there_no S.R c (.inr hc.2.2)
        have b5 : decide (c < 0) = false := decide_eq_false (by omega)
        have b6 : decide ((S.R.length : Int) ≤ c) = true := decide_eq_true hc.2.2
        have hE : mayE S t (-2) own c = 1 := by
          unfold mayE; simp [hth, hcr, hc.1]
        rw [hE]
        clear hE hI e1 e2 e4 hst
        go_enter Try.func55, Try.ntmps55
        go_wp2_with fail
        go_ret
        exact ⟨rfl, rfl⟩
      · have hcn : (c != -2) = true := by simpa using hc.1
        have hcr := there_yes S.R c hc.2.1 hc.2.2
        have b5 : decide (c < 0) = false := decide_eq_false (by omega)
        have b6 : decide ((S.R.length : Int) ≤ c) = false := decide_eq_false (by omega)
        by_cases h0 : x = 0
        · have b7 : (x != 0) = false := by simp [h0]
          have hE : mayE S t (-2) own c = 0 := by
            unfold mayE; simp [hth, hst, h0, hcr, hc.1]
          rw [hE]
          clear hE hI e1 e2 e4 hst h0
          go_enter Try.func55, Try.ntmps55
          go_wp2_with fail
          go_ret
          exact ⟨rfl, rfl⟩
        · have b7 : (x != 0) = true := by simp [h0]
          have hE : mayE S t (-2) own c = 12 := by
            unfold mayE; simp [hth, hst, h0, hcr, hc.1]
          rw [hE]
          clear hE hI e1 e2 e4 hst h0
          go_enter Try.func55, Try.ntmps55
          go_wp2_with fail
          go_ret
          exact ⟨rfl, rfl⟩
    · have hmn : (m != -2) = true := by simpa using hm.1
      have hmr := there_no S.M m (.inl hm.2)
      have b3 : decide (m < 0) = true := decide_eq_true hm.2
      have hE : mayE S t m own c = 1 := by
        unfold mayE; simp [hth, hmr, hm.1]
      rw [hE]
      clear hE hI e1 e2 e4 hst hc3
      go_enter Try.func55, Try.ntmps55
      go_wp2_with fail
      go_ret
      exact ⟨rfl, rfl⟩
    · have hmn : (m != -2) = true := by simpa using hm.1
      have hmr := there_no S.M m (.inr hm.2.2)
      have b3 : decide (m < 0) = false := decide_eq_false (by omega)
      have b4 : decide ((S.M.length : Int) ≤ m) = true := decide_eq_true hm.2.2
      have hE : mayE S t m own c = 1 := by
        unfold mayE; simp [hth, hmr, hm.1]
      rw [hE]
      clear hE hI e1 e2 e4 hst hc3
      go_enter Try.func55, Try.ntmps55
      go_wp2_with fail
      go_ret
      exact ⟨rfl, rfl⟩
    · have hmn : (m != -2) = true := by simpa using hm.1
      have hmr := there_yes S.M m hm.2.1 hm.2.2
      have b3 : decide (m < 0) = false := decide_eq_false (by omega)
      have b4 : decide ((S.M.length : Int) ≤ m) = false := decide_eq_false (by omega)
      obtain ⟨m, rfl⟩ := Int.eq_ofNat_of_zero_le hm.2.1
      have hm2 : m < S.M.length := by omega
      have g2 : ((m : Nat) : Int) < (S.M.length : Int) := by omega
      obtain ⟨bO, oO, cO, eO, kO, _, _, _, kset⟩ := hI.accO m hm2
      clear kset
      rw [e2] at eO
      obtain rfl : A2 = some ⟨bO, oO, none⟩ := (Value.slice.inj eO).1
      have how := owner_nat S m hm2
      obtain ⟨y, hy⟩ : ∃ y, y = (S.M[m]).1 := ⟨_, rfl⟩
      rw [← hy] at kO how
      clear hy eO
      rcases hc3 with rfl | hc | hc | hc
      · by_cases h0 : x = 0
        · have b7 : (x != 0) = false := by simp [h0]
          by_cases hy : y = (t : Int)
          · have b8 : (y == (t : Int)) = true := by simp [hy]
            cases own with
            | true =>
              have hE : mayE S t m true (-2) = 0 := by
                unfold mayE; simp [hth, hst, hmr, hm.1, how, h0, hy]
              rw [hE]
              clear hE hI e1 e2 e4 hst h0 how hy
              go_enter Try.func55, Try.ntmps55
              go_wp2_with fail
              go_ret
              exact ⟨rfl, rfl⟩
            | false =>
              have hE : mayE S t m false (-2) = 12 := by
                unfold mayE; simp [hth, hst, hmr, hm.1, how, h0, hy]
              rw [hE]
              clear hE hI e1 e2 e4 hst h0 how hy
              go_enter Try.func55, Try.ntmps55
              go_wp2_with fail
              go_ret
              exact ⟨rfl, rfl⟩
          · have b8 : (y == (t : Int)) = false := by simp [hy]
            cases own with
            | true =>
              have hE : mayE S t m true (-2) = 12 := by
                unfold mayE; simp [hth, hst, hmr, hm.1, how, h0, hy]
              rw [hE]
              clear hE hI e1 e2 e4 hst h0 how hy
              go_enter Try.func55, Try.ntmps55
              go_wp2_with fail
              go_ret
              exact ⟨rfl, rfl⟩
            | false =>
              have hE : mayE S t m false (-2) = 0 := by
                unfold mayE; simp [hth, hst, hmr, hm.1, how, h0, hy]
              rw [hE]
              clear hE hI e1 e2 e4 hst h0 how hy
              go_enter Try.func55, Try.ntmps55
              go_wp2_with fail
              go_ret
              exact ⟨rfl, rfl⟩
        · have b7 : (x != 0) = true := by simp [h0]
          have hE : mayE S t m own (-2) = 12 := by
            unfold mayE; simp [hth, hst, hmr, hm.1, how, h0]
          rw [hE]
          clear hE hI e1 e2 e4 hst h0 how
          go_enter Try.func55, Try.ntmps55
          go_wp2_with fail
          go_ret
          exact ⟨rfl, rfl⟩
      · have hcn : (c != -2) = true := by simpa using hc.1
        have hcr := there_no S.R c (.inl hc.2)
        have b5 : decide (c < 0) = true := decide_eq_true hc.2
        have hE : mayE S t m own c = 1 := by
          unfold mayE; simp [hth, hcr, hc.1, hmr, hm.1]
        rw [hE]
        clear hE hI e1 e2 e4 hst
        go_enter Try.func55, Try.ntmps55
        go_wp2_with fail
        go_ret
        exact ⟨rfl, rfl⟩
      · have hcn : (c != -2) = true := by simpa using hc.1
        have hcr := there_no S.R c (.inr hc.2.2)
        have b5 : decide (c < 0) = false := decide_eq_false (by omega)
        have b6 : decide ((S.R.length : Int) ≤ c) = true := decide_eq_true hc.2.2
        have hE : mayE S t m own c = 1 := by
          unfold mayE; simp [hth, hcr, hc.1, hmr, hm.1]
        rw [hE]
        clear hE hI e1 e2 e4 hst
        go_enter Try.func55, Try.ntmps55
        go_wp2_with fail
        go_ret
        exact ⟨rfl, rfl⟩
      · have hcn : (c != -2) = true := by simpa using hc.1
        have hcr := there_yes S.R c hc.2.1 hc.2.2
        have b5 : decide (c < 0) = false := decide_eq_false (by omega)
        have b6 : decide ((S.R.length : Int) ≤ c) = false := decide_eq_false (by omega)
        by_cases h0 : x = 0
        · have b7 : (x != 0) = false := by simp [h0]
          by_cases hy : y = (t : Int)
          · have b8 : (y == (t : Int)) = true := by simp [hy]
            cases own with
            | true =>
              have hE : mayE S t m true c = 0 := by
                unfold mayE; simp [hth, hst, hmr, hm.1, how, hcr, hc.1, h0, hy]
              rw [hE]
              clear hE hI e1 e2 e4 hst h0 how hy
              go_enter Try.func55, Try.ntmps55
              go_wp2_with fail
              go_ret
              exact ⟨rfl, rfl⟩
            | false =>
              have hE : mayE S t m false c = 12 := by
                unfold mayE; simp [hth, hst, hmr, hm.1, how, hcr, hc.1, h0, hy]
              rw [hE]
              clear hE hI e1 e2 e4 hst h0 how hy
              go_enter Try.func55, Try.ntmps55
              go_wp2_with fail
              go_ret
              exact ⟨rfl, rfl⟩
          · have b8 : (y == (t : Int)) = false := by simp [hy]
            cases own with
            | true =>
              have hE : mayE S t m true c = 12 := by
                unfold mayE; simp [hth, hst, hmr, hm.1, how, hcr, hc.1, h0, hy]
              rw [hE]
              clear hE hI e1 e2 e4 hst h0 how hy
              go_enter Try.func55, Try.ntmps55
              go_wp2_with fail
              go_ret
              exact ⟨rfl, rfl⟩
            | false =>
              have hE : mayE S t m false c = 0 := by
                unfold mayE; simp [hth, hst, hmr, hm.1, how, hcr, hc.1, h0, hy]
              rw [hE]
              clear hE hI e1 e2 e4 hst h0 how hy
              go_enter Try.func55, Try.ntmps55
              go_wp2_with fail
              go_ret
              exact ⟨rfl, rfl⟩
        · have b7 : (x != 0) = true := by simp [h0]
          have hE : mayE S t m own c = 12 := by
            unfold mayE; simp [hth, hst, hmr, hm.1, how, hcr, hc.1, h0]
          rw [hE]
          clear hE hI e1 e2 e4 hst h0 how
          go_enter Try.func55, Try.ntmps55
          go_wp2_with fail
          go_ret
          exact ⟨rfl, rfl⟩
end Go.Proofs.Ytcfkmhmgappckaa

/- The document's Lock and Unlock. No condition but on size. -/
namespace Go.Proofs.Ytcfkmhmgappckaa
open Go.RowKit Go.Proofs.Ytcfkmhmgappckaa.Sc Go.Proofs.Ytcfkmhmgappckaa.PAll Go.Proofs.YtcfkmhmgappckaaW.PrintWords Go.Proofs.YtcfkmhmgappckaaW.PrintLast Go.Proofs.YtcfkmhmgappckaaW.PrintMore

theorem some2_ne (m : Int) : some2 m ≠ -2 := by unfold some2; split <;> omega
theorem some2_there {α : Type} (l : List α) (m : Int) : there l (some2 m) = there l m := by
  unfold some2
  split
  · rename_i e; subst e; rw [there_no l (-1) (by omega), there_no l (-2) (by omega)]
  · rfl
theorem some2_owner (S : Sd) (m : Int) : owner S (some2 m) = owner S m := by
  unfold some2
  split
  · rename_i e; subst e; unfold owner; rw [there_no S.M (-1) (by omega), there_no S.M (-2) (by omega)]; rfl
  · rfl
theorem may_lock (S : Sd) (t m : Int) : mayE S t (some2 m) false (-2) = lockE S t m := by
  have h1 := some2_ne m
  unfold mayE lockE first
  rw [some2_there, some2_owner]
  cases there S.T t <;> cases there S.M m <;> simp [h1]
theorem may_unlock (S : Sd) (t m : Int) : mayE S t (some2 m) true (-2) = unlockE S t m := by
  have h1 := some2_ne m
  unfold mayE unlockE first
  rw [some2_there, some2_owner]
  cases there S.T t <;> cases there S.M m <;> simp [h1]
theorem may_wait (S : Sd) (t c m : Int) : mayE S t (some2 m) true (some2 c) = waitE S t c m := by
  have h1 := some2_ne m
  have h2 := some2_ne c
  unfold mayE waitE first
  rw [some2_there, some2_there, some2_owner]
  cases there S.T t <;> cases there S.M m <;> cases there S.R c <;> simp [h1, h2]
theorem may_rest (S : Sd) (t c : Int) : mayE S t (-2) false (some2 c) = restE S t c := by
  have h2 := some2_ne c
  unfold mayE restE first
  rw [some2_there]
  cases there S.T t <;> cases there S.R c <;> simp [h2]
theorem ok_owner {S : Sd} {more : List Int} (h : Ok S more) (m : Int) (hm : there S.M m = true) : (mu S m).1 = -1 ∨ 0 ≤ (mu S m).1 := by
  rcases h.own _ (mu_mem S m hm) with ⟨e, _⟩ | ⟨e, _⟩
  · exact .inl e
  · exact .inr ((there_iff _ _).1 e).1
set_option maxHeartbeats 1000000 in
set_option maxRecDepth 100000 in
theorem rlock_any {w : World} {base h : Nat} {F : Nat → Prop} {S : Sd} (H : Rch w base h F S) (hb : base ≤ w.heap.size) (hk : Ok S []) (lT : S.T.length ≤ 1000) (lM : S.M.length ≤ 1000) (lR : S.R.length ≤ 1000) (t m : Int) :
    Calls Try.prog 41 #[.pointer (some ⟨h, 0, none⟩), .int .i64 t, .int .i64 m] w fun e w' => e = .returned (.tuple #[.bool (lock S t m).2.1, .int .i64 (lock S t m).2.2]) ∧ NextR w base h F (lock S t m).1 w' := by
  have hmay := fun (w1 : World) (hb1 : Below w.heap.size w w1) => may_any (H.below hb1) lT lM lR t (some2 m) false (-2)
  rw [may_lock] at hmay
  have HMAY := Lib.hid hmay
  have HH := Lib.hid H
  clear hmay H
  by_cases hE : lockE S t m = 0
  · have hx := (first_eq _ _).1 hE
    simp only [Bool.and_eq_true] at hx
    have hl : lock S t m = ((come S t m).1, (come S t m).2, 0) := by unfold Sc.lock; rw [if_neg (by omega)]
    rw [hl]
    rw [hE] at HMAY
    have hco := fun (w1 : World) (hb1 : Below w.heap.size w w1) => rcome_any (HH.out.below hb1) (Nat.le_trans hb hb1.size) t m hx.1.1 hx.1.2 (Nat.le_trans (hk.rowFew _ (mu_mem S m hx.1.2)) lT) (ok_owner hk m hx.1.2)
    have HCO := Lib.hid hco
    clear hco hx hl hE hk
    go_enter Try.func41, Try.ntmps41
    go_wp2_with fail
    refine (some_any m w).mono ?_
    rintro e w1 ⟨rfl, hb1⟩
    have HB1 := Lib.hid hb1
    clear hb1
    go_wp2_with fail
    refine (HMAY.out w1 HB1.out).mono ?_
    rintro e w2 ⟨rfl, rfl⟩
    go_wp2_with fail
    refine (HCO.out w1 HB1.out).mono ?_
    rintro e w3 ⟨rfl, hn⟩
    have HN := Lib.hid hn
    clear hn
    go_wp2_with fail
    go_ret2
    exact ⟨rfl, NextR.pre HB1.out HH.out.1 hb HN.out⟩
  · have hl : lock S t m = (S, false, lockE S t m) := by unfold Sc.lock; rw [if_pos hE]
    rw [hl]
    have hne : (lockE S t m != 0) = true := by simpa using hE
    clear hl hE hk
    go_enter Try.func41, Try.ntmps41
    go_wp2_with fail
    refine (some_any m w).mono ?_
    rintro e w1 ⟨rfl, hb1⟩
    have HB1 := Lib.hid hb1
    clear hb1
    go_wp2_with fail
    refine (HMAY.out w1 HB1.out).mono ?_
    rintro e w2 ⟨rfl, rfl⟩
    go_wp2_with fail
    go_ret2
    exact ⟨rfl, NextR.of_below HH.out hb HB1.out⟩
set_option maxHeartbeats 1000000 in
set_option maxRecDepth 100000 in
theorem runlock_any {w : World} {base h : Nat} {F : Nat → Prop} {S : Sd} (H : Rch w base h F S) (hb : base ≤ w.heap.size) (hk : Ok S []) (lT : S.T.length ≤ 1000) (lM : S.M.length ≤ 1000) (lR : S.R.length ≤ 1000) (t m : Int) :
    Calls Try.prog 42 #[.pointer (some ⟨h, 0, none⟩), .int .i64 t, .int .i64 m] w fun e w' => e = .returned (.int .i64 (unlock S t m).2) ∧ NextR w base h F (unlock S t m).1 w' := by
  have hmay := fun (w1 : World) (hb1 : Below w.heap.size w w1) => may_any (H.below hb1) lT lM lR t (some2 m) true (-2)
  rw [may_unlock] at hmay
  have HMAY := Lib.hid hmay
  have HH := Lib.hid H
  clear hmay H
  by_cases hE : unlockE S t m = 0
  · have hx := (first_eq _ _).1 hE
    simp only [Bool.and_eq_true] at hx
    have hl : unlock S t m = (give S m, 0) := by unfold Sc.unlock; rw [if_pos hE, hE]
    rw [hl]
    rw [hE] at HMAY
    have hgi := fun (w1 : World) (hb1 : Below w.heap.size w w1) => rgive_any (HH.out.below hb1) (Nat.le_trans hb hb1.size) m hx.1.2 (fun t r hr => Ok.giveT hk m hx.1.2 t r hr)
    have HGI := Lib.hid hgi
    clear hgi hx hl hE hk
    go_enter Try.func42, Try.ntmps42
    go_wp2_with fail
    refine (some_any m w).mono ?_
    rintro e w1 ⟨rfl, hb1⟩
    have HB1 := Lib.hid hb1
    clear hb1
    go_wp2_with fail
    refine (HMAY.out w1 HB1.out).mono ?_
    rintro e w2 ⟨rfl, rfl⟩
    go_wp2_with fail
    refine (HGI.out w1 HB1.out).mono ?_
    rintro e w3 ⟨rfl, hn⟩
    have HN := Lib.hid hn
    clear hn
    go_wp2_with fail
    go_ret
    exact ⟨rfl, NextR.pre HB1.out HH.out.1 hb HN.out⟩
  · have hl : unlock S t m = (S, unlockE S t m) := by unfold Sc.unlock; rw [if_neg hE]
    rw [hl]
    have hne : (unlockE S t m == 0) = false := by simpa using hE
    clear hl hE hk
    go_enter Try.func42, Try.ntmps42
    go_wp2_with fail
    refine (some_any m w).mono ?_
    rintro e w1 ⟨rfl, hb1⟩
    have HB1 := Lib.hid hb1
    clear hb1
    go_wp2_with fail
    refine (HMAY.out w1 HB1.out).mono ?_
    rintro e w2 ⟨rfl, rfl⟩
    go_wp2_with fail
    go_ret
    exact ⟨rfl, NextR.of_below HH.out hb HB1.out⟩
end Go.Proofs.Ytcfkmhmgappckaa

/- The document's Wait and Lie. No condition but on size. -/
namespace Go.Proofs.Ytcfkmhmgappckaa
open Go.RowKit Go.Proofs.Ytcfkmhmgappckaa.Sc Go.Proofs.Ytcfkmhmgappckaa.PAll Go.Proofs.YtcfkmhmgappckaaW.PrintWords Go.Proofs.YtcfkmhmgappckaaW.PrintLast Go.Proofs.YtcfkmhmgappckaaW.PrintMore

theorem infoRestR : (Try.prog.info? 88).map (fun i => (i.zero, i.size, i.bytes)) = some (some (.agg #[.int .i64 0, .int .i64 0]), 2, 16) := by kernel_rfl
attribute [local go_sem ↓] Go.wp_at_zero Go.wp_at_succ
set_option maxHeartbeats 4000000 in
set_option maxRecDepth 100000 in
theorem rwait_nat {w : World} {base h : Nat} {F : Nat → Prop} {S : Sd} (H : Rch w base h F S) (hb : base ≤ w.heap.size) (hk : Ok S []) (lT : S.T.length ≤ 1000) (lM : S.M.length ≤ 1000) (lR : S.R.length ≤ 1000) (t c : Nat) (m : Int) (hE : waitE S t c m = 0) :
    Calls Try.prog 43 #[.pointer (some ⟨h, 0, none⟩), .int .i64 (t : Int), .int .i64 (c : Int), .int .i64 m] w fun e w' => e = .returned (.int .i64 0) ∧ NextR w base h F ((wait S t c m).1) w' := by
  obtain ⟨i0, hi, hz0, hz1, hz2⟩ := info_parts infoRestR
  have hmay := fun (w1 : World) (hb1 : Below w.heap.size w w1) => may_any (H.below hb1) lT lM lR (t : Int) (some2 m) true (some2 (c : Int))
  rw [may_wait, hE] at hmay
  have hx := (first_eq _ _).1 hE
  simp only [Bool.and_eq_true, decide_eq_true_eq] at hx
  have hT := hx.1.1.1
  have hR := hx.1.2
  have hM := hx.1.1.2
  have ht0 : stT S t = 0 := hx.2.1
  have ht1 : t < S.T.length := by have := (there_iff _ _).1 hT; omega
  have hc1 : c < S.R.length := by have := (there_iff _ _).1 hR; omega
  have hre : S.R.getD (c : Int).toNat [] = S.R[c] := by rw [Int.toNat_natCast, List.getD_eq_getElem?_getD, List.getElem?_eq_getElem hc1]; rfl
  have hko := hk.lie (t : Int) (c : Int) m ht0 hR (.inr hM)
  rw [hre] at hko
  have hrl : (S.R[c]).length ≤ 1000 := Nat.le_trans (hk.restFew _ (List.getElem_mem _)) lT
  have HH := Lib.hid H
  have HKO := Lib.hid hko
  have HMAY := Lib.hid hmay
  have HE := Lib.hid hE
  clear hx H hk hko hE hre ht0 hmay
  go_enter Try.func43, Try.ntmps43
  go_wp2_with fail
  refine (some_any m w).mono ?_
  rintro e w0 ⟨rfl, hb0⟩
  have HB0 := Lib.hid hb0
  clear hb0
  go_wp2_with fail
  refine (some_any c w0).mono ?_
  rintro e w1 ⟨rfl, hb1⟩
  have HB := Lib.hid (Below.up HB0.out hb1)
  clear hb1 HB0
  go_wp2_with fail
  refine (HMAY.out w1 HB.out).mono ?_
  rintro e w2 ⟨rfl, hw'⟩
  rw [← hw']
  clear hw' w2
  have h1r := HH.out.below HB.out
  obtain ⟨T, O, W, R, vs, us, h1, fh, fx⟩ := h1r.2
  obtain ⟨bT, oT, cT, eT, kT, zT, nT, obT, sT⟩ := h1.accT t ht1
  have d0 := h1.header.1
  rw [eT] at d0
  have g2 : ((t : Nat) : Int) < (S.T.length : Int) := by omega
  have h2 := sT 2
  have fT := fx T obs_T.1 bT obT
  have H2 := Lib.hid h2
  have HFX := Lib.hid fx
  clear h1 h1r h2 sT eT fx obT
  go_upto_region 4 with fail
  obtain ⟨w2, hw2⟩ : ∃ w2, w2 = w1.setCell ⟨bT, oT + t, none⟩ (.int .i64 2) := ⟨_, rfl⟩
  have hM2 : Moves F w w2 := by rw [hw2]; exact (((Moves.refl F w).below HB.out).store _ _ fT)
  have HM2 := Lib.hid hM2
  rw [← hw2] at H2 ⊢
  have h2 := H2.out
  have hc2 : c < (Sc.setT S t 2).R.length := hc1
  obtain ⟨bR, oR, cR, ob, u0, eR, hu, d6, _, nR, obR, nob, nobh, hR2, sR⟩ := h2.accR c hc2
  have d7 := h2.header.2.2.2
  rw [eR] at d7
  have d7 : w2.cell? ⟨h, 3, none⟩ = some (.slice (some ⟨bR, oR, none⟩) S.R.length cR) := d7
  have g3 : ((c : Nat) : Int) < (S.R.length : Int) := by omega
  have hR2 : RowIn w2 base 88 2 ob u0 (pairs (S.R[c])) := hR2
  have q1 := (World.cell?_alloc_some w2 _ (Obj.cells #[Value.int IntKind.i64 ↑t, Value.int IntKind.i64 m] 88 (0, 0)) (by rw [d7]; rfl)).trans d7
  have q2 := (World.cell?_alloc_some w2 _ (Obj.cells #[Value.int IntKind.i64 ↑t, Value.int IntKind.i64 m] 88 (0, 0)) (by rw [d6]; rfl)).trans d6
  have hk2 : ∀ (o : Obj) k, k < w2.heap.size → (w2.drew.alloc o).heap[k]? = w2.heap[k]? := fun o k hk => (Below.refl w2.heap.size w2.drew).alloc (Nat.le_refl _) o |>.block k hk
  have hRW : ∀ o : Obj, RowIn (w2.drew.alloc o) base 88 2 ob u0 (pairs (S.R[c])) := fun o => hR2.same (fun b hb2 => hk2 o b (hR2.lt b hb2).2)
  have hszM : base ≤ w2.heap.size := Nat.le_trans hb HM2.out.size
  have hbW : ∀ o : Obj, base ≤ (w2.drew.alloc o).heap.size := fun o => Nat.le_trans hszM (by simp)
  have hgr : ∀ w3, (w2.drew.alloc (Obj.cells #[Value.int IntKind.i64 ↑t, Value.int IntKind.i64 m] 88 (0, 0))).grownBy w3 ob → w2.grownBy w3 ob := fun w3 hg =>
    ⟨hg.os, hg.tape, hg.output, Nat.le_trans (by simp) hg.size, fun k hk hne => (hg.block k (Nat.lt_of_lt_of_le hk (by simp)) hne).trans (hk2 _ k hk)⟩
  have hobF : ∀ k, ob = some k → F k := fun k hk => HFX.out (ob, u0) (obs_u hu) k hk
  have hF : ∀ ob2 v2 w3, (w2.drew.alloc (Obj.cells #[Value.int IntKind.i64 ↑t, Value.int IntKind.i64 m] 88 (0, 0))).grownBy w3 ob → RowIn w3 base 88 2 ob2 v2 (pairs (S.R[c]) ++ [[.int .i64 (t : Int), .int .i64 m]]) → (ob2 = ob ∨ ∃ k, ob2 = some k ∧ (w2.drew.alloc (Obj.cells #[Value.int IntKind.i64 ↑t, Value.int IntKind.i64 m] 88 (0, 0))).heap.size ≤ k) →
      w3.cell? ⟨bR, oR + c, none⟩ = some u0 ∧ w3.frozen? ⟨bR, oR + c, none⟩ = false ∧ w3.cell? ⟨h, 3, none⟩ = some (.slice (some ⟨bR, oR, none⟩) S.R.length cR) ∧ NextR w base h F (setR (setT S t 2) c (S.R[c] ++ [((t : Int), m)])) (w3.setCell ⟨bR, oR + c, none⟩ v2) := by
    intro ob2 v2 w3 hg hR3 hob2
    have hr : pairs (S.R[c]) ++ [[Value.int .i64 (t : Int), .int .i64 m]] = pairs (S.R[c] ++ [((t : Int), m)]) := by simp [pairs]
    rw [hr] at hR3
    obtain ⟨a1, a2, a3, a4⟩ := sR w3 ob2 v2 _ (hgr w3 hg) hR3 (.inr (hob2.imp id (fun ⟨k, e1, e2⟩ => ⟨k, e1, Nat.le_trans (by simp) e2⟩)))
    rw [eR] at a3
    have hmv : Moves F w (w3.setCell ⟨bR, oR + c, none⟩ v2) := (HM2.out.grown (hgr w3 hg) (fun k hk => .inl (hobF k hk))).store _ _ (HFX.out R obs_T.2.2.2 bR obR)
    refine ⟨a1, a2, a3, HH.out.next hb a4 hmv fh (fun x hx k hk => ?_)⟩
    rcases obs_setU hx with hx | rfl
    · exact .inl (HFX.out x hx k hk)
    · rcases hob2 with e | ⟨k2, e, hk2⟩
      · exact .inl (hobF k (by rw [← e]; exact hk))
      · refine .inr ?_
        have e2 : some k2 = some k := e.symm.trans hk
        cases e2
        exact Nat.le_trans HM2.out.size (Nat.le_trans (by simp) hk2)
  have hc0 : ∀ j u, [Value.int .i64 (t : Int), Value.int .i64 m][j]? = some u → (w2.drew.alloc (Obj.cells #[Value.int IntKind.i64 ↑t, Value.int IntKind.i64 m] 88 (0, 0))).cell? ((⟨w2.heap.size, 0, none⟩ : Addr).add j) = some u := by
    intro j u hj
    rw [Addr.add_lit]
    match j with
    | 0 => obtain rfl : Value.int .i64 (t : Int) = u := by simpa using hj
           exact cell_at_new w2.drew _ _ 0 _ rfl
    | 1 => obtain rfl : Value.int .i64 m = u := by simpa using hj
           exact cell_at_new w2.drew _ _ 1 _ rfl
    | j + 2 => simp at hj
  have hone : ∀ u ∈ [Value.int .i64 (t : Int), Value.int .i64 m], u.oneCell' = true := by simp [Value.oneCell']
  have hpl : (pairs (S.R[c])).length = (S.R[c]).length := by simp [pairs]
  have hb1 : (pairs (S.R[c])).length + 1 ≤ maxLen := by unfold maxLen; omega
  have hb2 : ((pairs (S.R[c])).length + 1) * 16 ≤ 140737488355328 := by omega
  have HRW := Lib.hid hRW
  have HBW := Lib.hid hbW
  have HFF := Lib.hid hF
  have HC0 := Lib.hid hc0
  clear hRW hbW hF hc0 hk2 h2 hM2 hR2 hu hw2 hpl sR eR hgr hobF obR
  go_region_law ((refine step_push rfl (.tmp 36) (.tmp 40) 86 rfl 88 i0 (.agg #[.int .i64 0, .int .i64 0]) 2 16 Try.underlying86 hi hz0 hz1 hz2 rfl (by decide) (HRW.out _) rfl ⟨w2.heap.size, 0, none⟩ 1 [.int .i64 (t : Int), .int .i64 m] rfl rfl HC0.out hone hb1 hb2 (HBW.out _) ?_; intro ob' A' n' c' w3 hR3 hgrow hob; obtain ⟨y1, y2, y3, y4⟩ := HFF.out _ _ _ hgrow hR3 hob; have HNX := Lib.hid y4; clear y4))
  all_goals
    clear hob hR3 hgrow
    have hgv : Calls Try.prog 58 #[.pointer (some ⟨h, 0, none⟩), .int .i64 m] (w3.setCell ⟨bR, oR + c, none⟩ (.slice A' n' c')) fun e w' => e = .returned (.tuple #[]) ∧ NextR (w3.setCell ⟨bR, oR + c, none⟩ (.slice A' n' c')) base h (Plus F w (w3.setCell ⟨bR, oR + c, none⟩ (.slice A' n' c'))) (give (setR (setT S t 2) c (S.R[c] ++ [((t : Int), m)])) m) w' :=
      rgive_any HNX.out.1 (Nat.le_trans hb HNX.out.2.size) m hM (fun u r hu => Ok.giveT HKO.out m hM u r hu)
    have HGV := Lib.hid hgv
    clear hgv
    go_wp2_with fail
    refine HGV.out.mono ?_
    rintro e w5 ⟨rfl, hn5⟩
    have HN5 := Lib.hid (HNX.out.trans hn5)
    clear hn5
    go_wp2_with fail
    go_ret
    refine ⟨rfl, ?_⟩
    have hwt : (wait S t c m).1 = give (setR (setT S t 2) c (S.R[c] ++ [((t : Int), m)])) m := by
      have hre : S.R.getD (c : Int).toNat [] = S.R[c] := by rw [Int.toNat_natCast, List.getD_eq_getElem?_getD, List.getElem?_eq_getElem hc1]; rfl
      unfold Sc.wait
      rw [if_pos HE.out, hre]
    rw [hwt]
    exact HN5.out
set_option maxHeartbeats 4000000 in
set_option maxRecDepth 100000 in
theorem rrest_nat {w : World} {base h : Nat} {F : Nat → Prop} {S : Sd} (H : Rch w base h F S) (hb : base ≤ w.heap.size) (hk : Ok S []) (lT : S.T.length ≤ 1000) (lM : S.M.length ≤ 1000) (lR : S.R.length ≤ 1000) (t c : Nat) (hE : restE S t c = 0) :
    Calls Try.prog 44 #[.pointer (some ⟨h, 0, none⟩), .int .i64 (t : Int), .int .i64 (c : Int)] w fun e w' => e = .returned (.int .i64 0) ∧ NextR w base h F ((Sc.rest S t c).1) w' := by
  obtain ⟨i0, hi, hz0, hz1, hz2⟩ := info_parts infoRestR
  have hmay := fun (w1 : World) (hb1 : Below w.heap.size w w1) => may_any (H.below hb1) lT lM lR (t : Int) (-2) false (some2 (c : Int))
  rw [may_rest, hE] at hmay
  have hx := (first_eq _ _).1 hE
  simp only [Bool.and_eq_true, decide_eq_true_eq] at hx
  have hT := hx.1.1
  have hR := hx.1.2
  have ht0 : stT S t = 0 := hx.2
  have ht1 : t < S.T.length := by have := (there_iff _ _).1 hT; omega
  have hc1 : c < S.R.length := by have := (there_iff _ _).1 hR; omega
  have hre : S.R.getD (c : Int).toNat [] = S.R[c] := by rw [Int.toNat_natCast, List.getD_eq_getElem?_getD, List.getElem?_eq_getElem hc1]; rfl
  have hko := hk.lie (t : Int) (c : Int) (-1) ht0 hR (.inl rfl)
  rw [hre] at hko
  have hrl : (S.R[c]).length ≤ 1000 := Nat.le_trans (hk.restFew _ (List.getElem_mem _)) lT
  have HH := Lib.hid H
  have HKO := Lib.hid hko
  have HMAY := Lib.hid hmay
  have HE := Lib.hid hE
  clear hx H hk hko hE hre ht0 hmay
  go_enter Try.func44, Try.ntmps44
  go_wp2_with fail
  refine (some_any c w).mono ?_
  rintro e w1 ⟨rfl, hb1⟩
  have HB := Lib.hid hb1
  clear hb1
  go_wp2_with fail
  refine (HMAY.out w1 HB.out).mono ?_
  rintro e w2 ⟨rfl, hw'⟩
  rw [← hw']
  clear hw' w2
  have h1r := HH.out.below HB.out
  obtain ⟨T, O, W, R, vs, us, h1, fh, fx⟩ := h1r.2
  obtain ⟨bT, oT, cT, eT, kT, zT, nT, obT, sT⟩ := h1.accT t ht1
  have d0 := h1.header.1
  rw [eT] at d0
  have g2 : ((t : Nat) : Int) < (S.T.length : Int) := by omega
  have h2 := sT 2
  have fT := fx T obs_T.1 bT obT
  have H2 := Lib.hid h2
  have HFX := Lib.hid fx
  clear h1 h1r h2 sT eT fx obT
  go_upto_region 4 with fail
  obtain ⟨w2, hw2⟩ : ∃ w2, w2 = w1.setCell ⟨bT, oT + t, none⟩ (.int .i64 2) := ⟨_, rfl⟩
  have hM2 : Moves F w w2 := by rw [hw2]; exact (((Moves.refl F w).below HB.out).store _ _ fT)
  have HM2 := Lib.hid hM2
  rw [← hw2] at H2 ⊢
  have h2 := H2.out
  have hc2 : c < (Sc.setT S t 2).R.length := hc1
  obtain ⟨bR, oR, cR, ob, u0, eR, hu, d6, _, nR, obR, nob, nobh, hR2, sR⟩ := h2.accR c hc2
  have d7 := h2.header.2.2.2
  rw [eR] at d7
  have d7 : w2.cell? ⟨h, 3, none⟩ = some (.slice (some ⟨bR, oR, none⟩) S.R.length cR) := d7
  have g3 : ((c : Nat) : Int) < (S.R.length : Int) := by omega
  have hR2 : RowIn w2 base 88 2 ob u0 (pairs (S.R[c])) := hR2
  have q1 := (World.cell?_alloc_some w2 _ (Obj.cells #[Value.int IntKind.i64 ↑t, Value.int IntKind.i64 (-1)] 88 (0, 0)) (by rw [d7]; rfl)).trans d7
  have q2 := (World.cell?_alloc_some w2 _ (Obj.cells #[Value.int IntKind.i64 ↑t, Value.int IntKind.i64 (-1)] 88 (0, 0)) (by rw [d6]; rfl)).trans d6
  have hk2 : ∀ (o : Obj) k, k < w2.heap.size → (w2.drew.alloc o).heap[k]? = w2.heap[k]? := fun o k hk => (Below.refl w2.heap.size w2.drew).alloc (Nat.le_refl _) o |>.block k hk
  have hRW : ∀ o : Obj, RowIn (w2.drew.alloc o) base 88 2 ob u0 (pairs (S.R[c])) := fun o => hR2.same (fun b hb2 => hk2 o b (hR2.lt b hb2).2)
  have hszM : base ≤ w2.heap.size := Nat.le_trans hb HM2.out.size
  have hbW : ∀ o : Obj, base ≤ (w2.drew.alloc o).heap.size := fun o => Nat.le_trans hszM (by simp)
  have hgr : ∀ w3, (w2.drew.alloc (Obj.cells #[Value.int IntKind.i64 ↑t, Value.int IntKind.i64 (-1)] 88 (0, 0))).grownBy w3 ob → w2.grownBy w3 ob := fun w3 hg =>
    ⟨hg.os, hg.tape, hg.output, Nat.le_trans (by simp) hg.size, fun k hk hne => (hg.block k (Nat.lt_of_lt_of_le hk (by simp)) hne).trans (hk2 _ k hk)⟩
  have hobF : ∀ k, ob = some k → F k := fun k hk => HFX.out (ob, u0) (obs_u hu) k hk
  have hF : ∀ ob2 v2 w3, (w2.drew.alloc (Obj.cells #[Value.int IntKind.i64 ↑t, Value.int IntKind.i64 (-1)] 88 (0, 0))).grownBy w3 ob → RowIn w3 base 88 2 ob2 v2 (pairs (S.R[c]) ++ [[.int .i64 (t : Int), .int .i64 (-1)]]) → (ob2 = ob ∨ ∃ k, ob2 = some k ∧ (w2.drew.alloc (Obj.cells #[Value.int IntKind.i64 ↑t, Value.int IntKind.i64 (-1)] 88 (0, 0))).heap.size ≤ k) →
      w3.cell? ⟨bR, oR + c, none⟩ = some u0 ∧ w3.frozen? ⟨bR, oR + c, none⟩ = false ∧ w3.cell? ⟨h, 3, none⟩ = some (.slice (some ⟨bR, oR, none⟩) S.R.length cR) ∧ NextR w base h F (setR (setT S t 2) c (S.R[c] ++ [((t : Int), (-1 : Int))])) (w3.setCell ⟨bR, oR + c, none⟩ v2) := by
    intro ob2 v2 w3 hg hR3 hob2
    have hr : pairs (S.R[c]) ++ [[Value.int .i64 (t : Int), .int .i64 (-1)]] = pairs (S.R[c] ++ [((t : Int), (-1))]) := by simp [pairs]
    rw [hr] at hR3
    obtain ⟨a1, a2, a3, a4⟩ := sR w3 ob2 v2 _ (hgr w3 hg) hR3 (.inr (hob2.imp id (fun ⟨k, e1, e2⟩ => ⟨k, e1, Nat.le_trans (by simp) e2⟩)))
    rw [eR] at a3
    have hmv : Moves F w (w3.setCell ⟨bR, oR + c, none⟩ v2) := (HM2.out.grown (hgr w3 hg) (fun k hk => .inl (hobF k hk))).store _ _ (HFX.out R obs_T.2.2.2 bR obR)
    refine ⟨a1, a2, a3, HH.out.next hb a4 hmv fh (fun x hx k hk => ?_)⟩
    rcases obs_setU hx with hx | rfl
    · exact .inl (HFX.out x hx k hk)
    · rcases hob2 with e | ⟨k2, e, hk2⟩
      · exact .inl (hobF k (by rw [← e]; exact hk))
      · refine .inr ?_
        have e2 : some k2 = some k := e.symm.trans hk
        cases e2
        exact Nat.le_trans HM2.out.size (Nat.le_trans (by simp) hk2)
  have hc0 : ∀ j u, [Value.int .i64 (t : Int), Value.int .i64 (-1)][j]? = some u → (w2.drew.alloc (Obj.cells #[Value.int IntKind.i64 ↑t, Value.int IntKind.i64 (-1)] 88 (0, 0))).cell? ((⟨w2.heap.size, 0, none⟩ : Addr).add j) = some u := by
    intro j u hj
    rw [Addr.add_lit]
    match j with
    | 0 => obtain rfl : Value.int .i64 (t : Int) = u := by simpa using hj
           exact cell_at_new w2.drew _ _ 0 _ rfl
    | 1 => obtain rfl : Value.int .i64 (-1) = u := by simpa using hj
           exact cell_at_new w2.drew _ _ 1 _ rfl
    | j + 2 => simp at hj
  have hone : ∀ u ∈ [Value.int .i64 (t : Int), Value.int .i64 (-1)], u.oneCell' = true := by simp [Value.oneCell']
  have hpl : (pairs (S.R[c])).length = (S.R[c]).length := by simp [pairs]
  have hb1 : (pairs (S.R[c])).length + 1 ≤ maxLen := by unfold maxLen; omega
  have hb2 : ((pairs (S.R[c])).length + 1) * 16 ≤ 140737488355328 := by omega
  have HRW := Lib.hid hRW
  have HBW := Lib.hid hbW
  have HFF := Lib.hid hF
  have HC0 := Lib.hid hc0
  clear hRW hbW hF hc0 hk2 h2 hM2 hR2 hu hw2 hpl sR eR hgr hobF obR
  go_region_law ((refine step_push rfl (.tmp 32) (.tmp 35) 86 rfl 88 i0 (.agg #[.int .i64 0, .int .i64 0]) 2 16 Try.underlying86 hi hz0 hz1 hz2 rfl (by decide) (HRW.out _) rfl ⟨w2.heap.size, 0, none⟩ 1 [.int .i64 (t : Int), .int .i64 (-1)] rfl rfl HC0.out hone hb1 hb2 (HBW.out _) ?_; intro ob' A' n' c' w3 hR3 hgrow hob; obtain ⟨y1, y2, y3, y4⟩ := HFF.out _ _ _ hgrow hR3 hob; have HNX := Lib.hid y4; clear y4))
  all_goals
    clear hob hR3 hgrow
    go_wp2_with fail
    go_ret
    refine ⟨rfl, ?_⟩
    have hwt : (Sc.rest S t c).1 = setR (setT S t 2) c (S.R[c] ++ [((t : Int), (-1 : Int))]) := by
      have hre : S.R.getD (c : Int).toNat [] = S.R[c] := by rw [Int.toNat_natCast, List.getD_eq_getElem?_getD, List.getElem?_eq_getElem hc1]; rfl
      unfold Sc.rest
      rw [if_pos HE.out, hre]
    rw [hwt]
    exact HNX.out
end Go.Proofs.Ytcfkmhmgappckaa
