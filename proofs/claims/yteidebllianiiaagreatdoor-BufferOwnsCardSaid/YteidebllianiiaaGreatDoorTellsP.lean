/- Postings tell all words, plain; which postings may be. Condition: few bytes. -/
import Derived.Test.YteidebllianiiaaGreatDoorBun1
import Derived.Test.YteidebllianiiaaGreatDoorPAllx13
set_option linter.unusedVariables false
set_option linter.unusedSimpArgs false
namespace Go.Proofs.YteidebllianiiaaGreatDoor
open Go.RowKit Go.Proofs.YteidebllianiiaaGreatDoor.PAll Go.Proofs.YteidebllianiiaaGreatDoorW.PrintWords Go.Proofs.YteidebllianiiaaGreatDoorW.PrintLast Go.Proofs.YteidebllianiiaaGreatDoorW.PrintMore

/-! ### sums -/

theorem zip_mem {α : Type} {L : List α} {x : α × Nat} (h : x ∈ L.zipIdx) : ∃ hi : x.2 < L.length, L[x.2] = x.1 := by
  obtain ⟨j, hj, e⟩ := List.mem_iff_getElem.1 h
  rw [List.getElem_zipIdx] at e
  have hj2 : j < L.length := by simpa using hj
  subst e
  exact ⟨by simpa using hj2, by simp⟩
theorem zip_rise {α : Type} (L : List α) : L.zipIdx.Pairwise (fun a b => a.2 < b.2) := by
  rw [List.pairwise_iff_getElem]
  intro i j hi hj hij
  rw [List.getElem_zipIdx, List.getElem_zipIdx]
  simpa using hij
/-! ### which postings may be -/
/-- Numbers that rise, from 0 on. -/
def Up (l : List Int) : Prop := (∀ x ∈ l, 0 ≤ x ∧ x < 2147483648) ∧ l.Pairwise (· < ·) ∧ l.length ≤ 1000000000

/-- Postings that may be. -/
structure MayP (P : List Pst) : Prop where
  each : ∀ p ∈ P, 0 ≤ p.f0 ∧ p.f0 < 2147483648 ∧ p.f1 ≠ [] ∧ Up p.f1
  rise : P.Pairwise (fun p q => p.f0 < q.f0)
  len : P.length ≤ 1000000000
theorem rdP_nat (l : List Pst) (i : Nat) (h : i < l.length) : rd_T41 l (i : Int) = l[i] := by unfold rd_T41; rw [Int.toNat_natCast, List.getD_eq_getElem?_getD, List.getElem?_eq_getElem h]; rfl

theorem plc_up (L : List ByteArray) (w : ByteArray) (hL : L.length ≤ 1000000) : Up (plc L w) := by
  refine ⟨fun x hx => ?_, ?_, Nat.le_trans (plc_len L w) (by omega)⟩
  · unfold plc at hx
    obtain ⟨y, hy, rfl⟩ := List.mem_map.1 hx
    obtain ⟨hi, _⟩ := zip_mem (List.mem_filter.1 hy).1
    omega
  · unfold plc
    rw [List.pairwise_map]
    exact ((zip_rise L).filter _).imp (fun h => by omega)
theorem key_eq {a b : Tm} (h : keyS a = keyS b) : keyB a = keyB b := by rw [← keyS_data, ← keyS_data, h]
theorem fit_clean {e : Ent} (h : Fit9 e) : Clean (termsOf (occ e.f0.f1)) ∧ Rise (termsOf (occ e.f0.f1)) := clean_terms h.short.docOk (names_ok h.nice.1) (fun _ ho => ho)

theorem posts_may {L : List Ent} (h : ∀ e ∈ L, Fit9 e) (hn : L.length ≤ 1000) (s : ByteArray) : MayP (posts L s) := by
  refine ⟨fun p hp => ?_, ?_, Nat.le_trans (posts_len (fun e he => (h e he).okE) s) (by omega)⟩
  · unfold posts at hp
    obtain ⟨x, hx, hp⟩ := List.mem_flatMap.1 hp
    obtain ⟨hi, ex⟩ := zip_mem hx
    unfold docPosts at hp
    obtain ⟨t, ht, rfl⟩ := List.mem_map.1 hp
    have hf := h x.1 (ex ▸ List.getElem_mem hi)
    have htm := (List.mem_filter.1 ht).1
    have hne := (places_some (occ x.1.f0.f1) t).2 ((mem_termsOf _ _).1 htm)
    refine ⟨by show (0 : Int) ≤ (x.2 : Int); omega, by show (x.2 : Int) < 2147483648; omega, hne, ?_⟩
    show Up (placesIn (occ x.1.f0.f1) t)
    rw [places_own hf.nice.2]
    have hw : (words8 x.1.f0.f1 t.1).length ≤ 1000000 := by
      have := plc_len (words8 x.1.f0.f1 t.1) t.2
      unfold words8
      split
      · rename_i f hf2
        have h1 := wordsT_len f.f1
        have h2 := (hf.short.2 f (List.mem_of_find?_eq_some hf2)).2
        omega
      · simp
    exact plc_up _ _ hw
  · unfold posts
    rw [List.pairwise_flatMap]
    refine ⟨fun x hx => ?_, (zip_rise L).imp (fun {a b} hab p hp q hq => ?_)⟩
    · obtain ⟨hi, ex⟩ := zip_mem hx
      have hr := (fit_clean (h x.1 (ex ▸ List.getElem_mem hi))).2
      unfold docPosts
      rw [List.pairwise_map]
      refine (List.Pairwise.filter _ hr).imp_of_mem (fun {a b} ha hb hab => ?_)
      have e1 : keyS a = s := by simpa using (List.mem_filter.1 ha).2
      have e2 : keyS b = s := by simpa using (List.mem_filter.1 hb).2
      rw [key_eq (e1.trans e2.symm)] at hab
      exact (List.lt_irrefl _ hab).elim
    · unfold docPosts at hp hq
      obtain ⟨t, _, rfl⟩ := List.mem_map.1 hp
      obtain ⟨u, _, rfl⟩ := List.mem_map.1 hq
      show (a.2 : Int) < (b.2 : Int)
      omega

end Go.Proofs.YteidebllianiiaaGreatDoor
