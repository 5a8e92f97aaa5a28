/- Postings tell all words, plain; which postings may be. Condition: few bytes. -/
import Derived.Test.YteidebllianiiaaGreatDoorBun1
import Derived.Test.YteidebllianiiaaGreatDoorPAllx13
set_option linter.unusedVariables false
set_option linter.unusedSimpArgs false
namespace Go.Proofs.YteidebllianiiaaGreatDoor
open Go.RowKit Go.Proofs.YteidebllianiiaaGreatDoor.PAll Go.Proofs.YteidebllianiiaaGreatDoorW.PrintWords Go.Proofs.YteidebllianiiaaGreatDoorW.PrintLast Go.Proofs.YteidebllianiiaaGreatDoorW.PrintMore

/-! ### sums -/
theorem sum_one {α : Type} [DecidableEq α] (a : α) (c : Nat) : ∀ X : List α, X.Nodup → (X.map (fun x => if a = x then c else 0)).sum = if a ∈ X then c else 0 := by
  intro X
  induction X with
  | nil => intro _; simp
  | cons x X ih =>
    intro hn
    obtain ⟨h1, h2⟩ := List.nodup_cons.1 hn
    rw [List.map_cons, List.sum_cons, ih h2]
    by_cases h : a = x
    · subst h
      simp [h1]
    · simp [h]
theorem sum_add {α : Type} (f g : α → Nat) : ∀ X : List α, (X.map (fun x => f x + g x)).sum = (X.map f).sum + (X.map g).sum := by
  intro X
  induction X with
  | nil => rfl
  | cons x X ih => simp only [List.map_cons, List.sum_cons, ih]; omega
theorem sum_zero' {α : Type} : ∀ X : List α, (X.map (fun _ => 0)).sum = 0 := by
  intro X
  induction X with
  | nil => rfl
  | cons x X ih => simp only [List.map_cons, List.sum_cons, ih]
/-- What is counted at each key is counted once. -/
theorem sum_keys {α β : Type} [DecidableEq α] (X : List α) (hX : X.Nodup) (f : β → α) (c : β → Nat) : ∀ Y : List β, (∀ y ∈ Y, f y ∈ X) → (X.map (fun x => ((Y.filter (fun y => decide (f y = x))).map c).sum)).sum = (Y.map c).sum := by
  intro Y
  induction Y with
  | nil => intro _; simp [sum_zero']
  | cons y Y ih =>
    intro h
    have h1 := ih (fun z hz => h z (List.mem_cons_of_mem _ hz))
    have h2 : ∀ x, (((y :: Y).filter (fun y => decide (f y = x))).map c).sum = (if f y = x then c y else 0) + ((Y.filter (fun y => decide (f y = x))).map c).sum := by
      intro x
      by_cases e : f y = x <;> simp [e]
    rw [show (X.map (fun x => (((y :: Y).filter (fun y => decide (f y = x))).map c).sum)) = X.map (fun x => (if f y = x then c y else 0) + ((Y.filter (fun y => decide (f y = x))).map c).sum) from List.map_congr_left (fun x _ => h2 x), sum_add, h1, sum_one _ _ X hX, if_pos (h y List.mem_cons_self), List.map_cons, List.sum_cons]
theorem sum_swap {α β : Type} (S : α → β → Nat) (Y : List β) : ∀ X : List α, (X.map (fun x => (Y.map (fun y => S x y)).sum)).sum = (Y.map (fun y => (X.map (fun x => S x y)).sum)).sum := by
  intro X
  induction X with
  | nil => simp [sum_zero']
  | cons x X ih =>
    rw [List.map_cons, List.sum_cons, ih]
    rw [show (Y.map (fun y => ((x :: X).map (fun x => S x y)).sum)) = Y.map (fun y => S x y + (X.map (fun x => S x y)).sum) from List.map_congr_left (fun y _ => by rw [List.map_cons, List.sum_cons]), sum_add]
theorem sum_fm {α β : Type} (f : α → List β) (c : β → Nat) : ∀ X : List α, ((X.flatMap f).map c).sum = (X.map (fun x => ((f x).map c).sum)).sum := by
  intro X
  induction X with
  | nil => rfl
  | cons x X ih => simp only [List.flatMap_cons, List.map_append, List.sum_append, List.map_cons, List.sum_cons, ih]
theorem map_zip {α β : Type} (g : α → β) : ∀ (L : List α) (n : Nat), (L.zipIdx n).map (fun x => g x.1) = L.map g := by
  intro L
  induction L with
  | nil => intro n; rfl
  | cons x L ih => intro n; rw [List.zipIdx_cons, List.map_cons, ih, List.map_cons]
theorem zip_mem {α : Type} {L : List α} {x : α × Nat} (h : x ∈ L.zipIdx) : ∃ hi : x.2 < L.length, L[x.2] = x.1 := by
  obtain ⟨j, hj, e⟩ := List.mem_iff_getElem.1 h
  rw [List.getElem_zipIdx] at e
  have hj2 : j < L.length := by simpa using hj
  subst e
  exact ⟨by simpa using hj2, by simp⟩
theorem zip_rise {α : Type} (L : List α) : L.zipIdx.Pairwise (fun a b => a.2 < b.2) := by
  rw [List.pairwise_iff_getElem]
  intro i j hi hj hij
  rw [List.getElem_zipIdx, List.getElem_zipIdx]
  simpa using hij
/-! ### which postings may be -/
/-- Numbers that rise, from 0 on. -/
def Up (l : List Int) : Prop := (∀ x ∈ l, 0 ≤ x ∧ x < 2147483648) ∧ l.Pairwise (· < ·) ∧ l.length ≤ 1000000000
theorem rises_loop (l : List Int) (h : Up l) (d : Nat) : ∀ i : Nat, i + d = l.length → Ev (fun k => concordanceref04_Rises.l0 k l (i : Int)) true := by
  induction d with
  | zero =>
    intro i hi
    exact Ev.step (fun k => by rw [concordanceref04_Rises.l0]) (Ev.neg (by omega) (Ev.ret rfl))
  | succ d ih =>
    intro i hi
    have hil : i < l.length := by omega
    have hb := h.1 _ (List.getElem_mem hil)
    have hn := h.2.2
    refine Ev.step (fun k => by rw [concordanceref04_Rises.l0, rd_nat l i hil, wrap_nat i (by omega)]) ?_
    refine Ev.pos (by omega) <| Ev.pos (by omega) <| Ev.neg (by omega) ?_
    by_cases h0 : 0 < i
    · have hw : wrap64 ((i : Int) - 1) = ((i - 1 : Nat) : Int) := by rw [wrap_small _ (by omega)]; omega
      have hlt := List.pairwise_iff_getElem.1 h.2.1 (i - 1) i (by omega) hil (by omega)
      rw [hw, rd_nat l (i - 1) (by omega)]
      exact Ev.pos (by omega) <| Ev.pos (by omega) <| Ev.pos (by omega) <| Ev.neg (by omega) (ih (i + 1) (by omega))
    · exact Ev.neg (by omega) (ih (i + 1) (by omega))
theorem rises_ev (l : List Int) (h : Up l) : Ev (fun k => concordanceref04_Rises.f k l) true := by
  unfold concordanceref04_Rises.f
  exact rises_loop l h l.length 0 (by omega)
/-- Postings that may be. -/
structure MayP (P : List Pst) : Prop where
  each : ∀ p ∈ P, 0 ≤ p.f0 ∧ p.f0 < 2147483648 ∧ p.f1 ≠ [] ∧ Up p.f1
  rise : P.Pairwise (fun p q => p.f0 < q.f0)
  len : P.length ≤ 1000000000
theorem rdP_nat (l : List Pst) (i : Nat) (h : i < l.length) : rd_T41 l (i : Int) = l[i] := by unfold rd_T41; rw [Int.toNat_natCast, List.getD_eq_getElem?_getD, List.getElem?_eq_getElem h]; rfl
theorem mayp_loop (P : List Pst) (h : MayP P) (d : Nat) : ∀ i : Nat, i + d = P.length → Ev (fun k => concordanceref05_May.l0 k P (i : Int)) true := by
  induction d with
  | zero =>
    intro i hi
    exact Ev.step (fun k => by rw [concordanceref05_May.l0]) (Ev.neg (by omega) (Ev.ret rfl))
  | succ d ih =>
    intro i hi
    have hil : i < P.length := by omega
    have hn := h.len
    obtain ⟨b1, b2, b3, b4⟩ := h.each _ (List.getElem_mem hil)
    have b5 : 0 < P[i].f1.length := List.length_pos_iff.2 b3
    have b6 := b4.2.2
    have hw2 : wrap64 ((P[i].f1.length : Int) - 1) = ((P[i].f1.length - 1 : Nat) : Int) := by rw [wrap_small _ (by omega)]; omega
    have b7 := (b4.1 _ (List.getElem_mem (show P[i].f1.length - 1 < P[i].f1.length by omega))).2
    have hr := rd_nat P[i].f1 (P[i].f1.length - 1) (by omega)
    refine Ev.step (fun k => by rw [concordanceref05_May.l0, rdP_nat P i hil, wrap_nat i (by omega)]) ?_
    refine Ev.pos (by omega) <| Ev.pos (by omega) <| Ev.bind (rises_ev _ b4) <| Ev.neg (by omega) <| Ev.neg (by omega) ?_
    rw [hw2, hr]
    by_cases h0 : 0 < i
    · have hw : wrap64 ((i : Int) - 1) = ((i - 1 : Nat) : Int) := by rw [wrap_small _ (by omega)]; omega
      have hlt := List.pairwise_iff_getElem.1 h.rise (i - 1) i (by omega) hil (by omega)
      rw [hw, rdP_nat P (i - 1) (by omega)]
      exact Ev.pos (by omega) <| Ev.pos (by omega) <| Ev.pos (by omega) <| Ev.neg (by omega) <| Ev.neg (by omega) <| Ev.pos rfl <| Ev.pos (by omega) <| Ev.pos (by omega) <| Ev.neg (by omega) (ih (i + 1) (by omega))
    · exact Ev.neg (by omega) <| Ev.neg (by omega) <| Ev.pos rfl <| Ev.pos (by omega) <| Ev.pos (by omega) <| Ev.neg (by omega) (ih (i + 1) (by omega))
theorem mayp_ev (P : List Pst) (h : MayP P) : Ev (fun k => concordanceref05_May.f k P) true := by
  unfold concordanceref05_May.f
  exact mayp_loop P h P.length 0 (by omega)
theorem plc_up (L : List ByteArray) (w : ByteArray) (hL : L.length ≤ 1000000) : Up (plc L w) := by
  refine ⟨fun x hx => ?_, ?_, Nat.le_trans (plc_len L w) (by omega)⟩
  · unfold plc at hx
    obtain ⟨y, hy, rfl⟩ := List.mem_map.1 hx
    obtain ⟨hi, _⟩ := zip_mem (List.mem_filter.1 hy).1
    omega
  · unfold plc
    rw [List.pairwise_map]
    exact ((zip_rise L).filter _).imp (fun h => by omega)
theorem key_eq {a b : Tm} (h : keyS a = keyS b) : keyB a = keyB b := by rw [← keyS_data, ← keyS_data, h]
theorem fit_clean {e : Ent} (h : Fit9 e) : Clean (termsOf (occ e.f0.f1)) ∧ Rise (termsOf (occ e.f0.f1)) := clean_terms h.short.docOk (names_ok h.nice.1) (fun _ ho => ho)

theorem posts_may {L : List Ent} (h : ∀ e ∈ L, Fit9 e) (hn : L.length ≤ 1000) (s : ByteArray) : MayP (posts L s) := by
  refine ⟨fun p hp => ?_, ?_, Nat.le_trans (posts_len (fun e he => (h e he).okE) s) (by omega)⟩
  · unfold posts at hp
    obtain ⟨x, hx, hp⟩ := List.mem_flatMap.1 hp
    obtain ⟨hi, ex⟩ := zip_mem hx
    unfold docPosts at hp
    obtain ⟨t, ht, rfl⟩ := List.mem_map.1 hp
    have hf := h x.1 (ex ▸ List.getElem_mem hi)
    have htm := (List.mem_filter.1 ht).1
    have hne := (places_some (occ x.1.f0.f1) t).2 ((mem_termsOf _ _).1 htm)
    refine ⟨by show (0 : Int) ≤ (x.2 : Int); omega, by show (x.2 : Int) < 2147483648; omega, hne, ?_⟩
    show Up (placesIn (occ x.1.f0.f1) t)
    rw [places_own hf.nice.2]
    have hw : (words8 x.1.f0.f1 t.1).length ≤ 1000000 := by
      have := plc_len (words8 x.1.f0.f1 t.1) t.2
      unfold words8
      split
      · rename_i f hf2
        have h1 := wordsT_len f.f1
        have h2 := (hf.short.2 f (List.mem_of_find?_eq_some hf2)).2
        omega
      · simp
    exact plc_up _ _ hw
  · unfold posts
    rw [List.pairwise_flatMap]
    refine ⟨fun x hx => ?_, (zip_rise L).imp (fun {a b} hab p hp q hq => ?_)⟩
    · obtain ⟨hi, ex⟩ := zip_mem hx
      have hr := (fit_clean (h x.1 (ex ▸ List.getElem_mem hi))).2
      unfold docPosts
      rw [List.pairwise_map]
      refine (List.Pairwise.filter _ hr).imp_of_mem (fun {a b} ha hb hab => ?_)
      have e1 : keyS a = s := by simpa using (List.mem_filter.1 ha).2
      have e2 : keyS b = s := by simpa using (List.mem_filter.1 hb).2
      rw [key_eq (e1.trans e2.symm)] at hab
      exact (List.lt_irrefl _ hab).elim
    · unfold docPosts at hp hq
      obtain ⟨t, _, rfl⟩ := List.mem_map.1 hp
      obtain ⟨u, _, rfl⟩ := List.mem_map.1 hq
      show (a.2 : Int) < (b.2 : Int)
      omega
theorem rise_nodup {T : List Tm} (h : Rise T) : T.Nodup := h.imp (fun {a b} hab e => by subst e; exact List.lt_irrefl _ hab)
theorem keys_nodup {X : List ByteArray} {f : ByteArray → List Pst} (h : IsKeys f X) : X.Nodup := h.1.imp (fun {a b} hab e => by subst e; exact List.lt_irrefl _ hab)
/-- All words of all documents. -/
theorem tells_sum {L : List Ent} (h : ∀ e ∈ L, Fit9 e) {X : List ByteArray} (hX : IsKeys (posts L) X) : (X.map (fun x => ((posts L x).map (fun p => p.f1.length)).sum)).sum = weigh L := by
  have h1 : ∀ x, ((posts L x).map (fun p => p.f1.length)).sum = (L.zipIdx.map (fun e => (((termsOf (occ e.1.f0.f1)).filter (fun t => decide (keyS t = x))).map (fun t => (placesIn (occ e.1.f0.f1) t).length)).sum)).sum := by
    intro x
    unfold posts
    rw [sum_fm]
    refine congrArg List.sum (List.map_congr_left (fun e _ => ?_))
    unfold docPosts
    rw [List.map_map]
    rfl
  rw [show (X.map (fun x => ((posts L x).map (fun p => p.f1.length)).sum)) = X.map (fun x => (L.zipIdx.map (fun e => (((termsOf (occ e.1.f0.f1)).filter (fun t => decide (keyS t = x))).map (fun t => (placesIn (occ e.1.f0.f1) t).length)).sum)).sum) from List.map_congr_left (fun x _ => h1 x)]
  rw [sum_swap (fun (x : ByteArray) (e : Ent × Nat) => (((termsOf (occ e.1.f0.f1)).filter (fun t => decide (keyS t = x))).map (fun t => (placesIn (occ e.1.f0.f1) t).length)).sum) L.zipIdx X]
  have h2 : ∀ e ∈ L.zipIdx, (X.map (fun x => (((termsOf (occ e.1.f0.f1)).filter (fun t => decide (keyS t = x))).map (fun t => (placesIn (occ e.1.f0.f1) t).length)).sum)).sum = (occ e.1.f0.f1).length := by
    intro e he
    obtain ⟨hi, ex⟩ := zip_mem he
    have hr := (fit_clean (h e.1 (ex ▸ List.getElem_mem hi))).2
    rw [sum_keys X (keys_nodup hX) keyS (fun t => (placesIn (occ e.1.f0.f1) t).length) (termsOf (occ e.1.f0.f1)) (fun t ht => (hX.2 _).2 (fun hnil => ?_))]
    · have h3 : ∀ t, (placesIn (occ e.1.f0.f1) t).length = (((occ e.1.f0.f1).filter (fun o => decide (tmOf o = t))).map (fun _ => 1)).sum := by
        intro t
        unfold placesIn
        rw [List.length_map]
        have : ∀ Z : List Occ, Z.length = (Z.map (fun _ => 1)).sum := by
          intro Z
          induction Z with
          | nil => rfl
          | cons z Z ih => rw [List.length_cons, List.map_cons, List.sum_cons, ih]; omega
        exact this _
      rw [show ((termsOf (occ e.1.f0.f1)).map (fun t => (placesIn (occ e.1.f0.f1) t).length)) = (termsOf (occ e.1.f0.f1)).map (fun t => (((occ e.1.f0.f1).filter (fun o => decide (tmOf o = t))).map (fun _ => 1)).sum) from List.map_congr_left (fun t _ => h3 t)]
      rw [sum_keys _ (rise_nodup hr) tmOf (fun _ => 1) (occ e.1.f0.f1) (fun o ho => (mem_termsOf _ _).2 ⟨o, ho, rfl⟩)]
      generalize occ e.1.f0.f1 = Z
      induction Z with
      | nil => rfl
      | cons z Z ih => rw [List.map_cons, List.sum_cons, ih, List.length_cons]; omega
    · have hmem : (⟨(e.2 : Int), placesIn (occ e.1.f0.f1) t⟩ : Pst) ∈ posts L (keyS t) := by
        unfold posts
        refine List.mem_flatMap.2 ⟨e, he, ?_⟩
        unfold docPosts
        exact List.mem_map.2 ⟨t, List.mem_filter.2 ⟨ht, by simp⟩, rfl⟩
      rw [hnil] at hmem
      cases hmem
  rw [show (L.zipIdx.map (fun e => (X.map (fun x => (((termsOf (occ e.1.f0.f1)).filter (fun t => decide (keyS t = x))).map (fun t => (placesIn (occ e.1.f0.f1) t).length)).sum)).sum)) = L.zipIdx.map (fun e => (fun q : Ent => (occ q.f0.f1).length) e.1) from List.map_congr_left h2, map_zip (fun q : Ent => (occ q.f0.f1).length)]
  rfl
end Go.Proofs.YteidebllianiiaaGreatDoor
