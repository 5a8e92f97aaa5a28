/- A mutex is given up. No condition but on size. -/
import Derived.Test.YtcfkmhmgappckaaHeld
import Derived.Test.YtcfkmhmgappckaaSchedI
namespace Go.Proofs.Ytcfkmhmgappckaa
open Go.RowKit Go.Proofs.Ytcfkmhmgappckaa.Sc Go.Proofs.Ytcfkmhmgappckaa.PAll Go.Proofs.YtcfkmhmgappckaaW.PrintWords Go.Proofs.YtcfkmhmgappckaaW.PrintLast Go.Proofs.YtcfkmhmgappckaaW.PrintMore

theorem mem_set_or {α : Type} {l : List α} {i : Nat} {x y : α} (h : y ∈ l.set i x) : y ∈ l ∨ y = x := List.mem_or_eq_of_mem_set h
theorem come_any {w : World} {base g : Nat} {F : Nat → Prop} {S : Sd} (h : Sch w base g F S) (hb : base ≤ w.heap.size) (t m : Int) (ht : there S.T t = true) (hm : there S.M m = true) (hl : (mu S m).2.length ≤ 1000) :
    Calls Try.prog 31 #[.pointer (some ⟨g, 0, none⟩), .int .i64 t, .int .i64 m] w fun e w' => e = .returned (.bool (come S t m).2) ∧ Next w base g F (come S t m).1 w' := by
  have ht1 := (there_iff _ _).1 ht
  have hm1 := (there_iff _ _).1 hm
  obtain ⟨t, rfl⟩ := Int.eq_ofNat_of_zero_le ht1.1
  obtain ⟨m, rfl⟩ := Int.eq_ofNat_of_zero_le hm1.1
  have hm2 : m < S.M.length := by omega
  have ht2 : t < S.T.length := by omega
  have hmu : mu S (m : Int) = S.M[m] := by
    unfold mu; rw [Int.toNat_natCast, List.getD_eq_getElem?_getD, List.getElem?_eq_getElem hm2]; rfl
  rw [hmu] at hl
  obtain ⟨hF0, bT, bM, bR, vs, us, hS, f1, f2, f3, f4, f5⟩ := id h
  unfold come
  rw [hmu]
  by_cases hf : (S.M[m]).1 = -1
  · rw [if_pos hf]
    refine (come_free hS t m ht2 hm2 hf).mono ?_
    rintro e w' ⟨rfl, h1, h2⟩
    exact ⟨rfl, h.next hb h1 (h2 F ⟨f3, f2⟩) ⟨f1, f2, f3, f4⟩ (fun x hx k hk => .inl (f5 x hx k hk))⟩
  · rw [if_neg hf]
    refine (come_held hS hb t m ht2 hm2 hf hl).mono ?_
    rintro e w' ⟨rfl, ob, ob', v', ⟨v0, hv⟩, hob, h1, h2⟩
    have hobF : ∀ k, ob = some k → F k := fun k hk => f5 (ob, v0) (List.mem_append.2 (.inl (List.mem_of_getElem? hv))) k hk
    refine ⟨rfl, h.next hb h1 (h2 F ⟨f3, f2⟩ hobF) ⟨f1, f2, f3, f4⟩ (fun x hx k hk => ?_)⟩
    rcases List.mem_append.1 hx with hx | hx
    · rcases mem_set_or hx with hx | rfl
      · exact .inl (f5 x (List.mem_append.2 (.inl hx)) k hk)
      · rcases hob with e | ⟨k2, e, hk2⟩
        · exact .inl (hobF k (by rw [← e]; exact hk))
        · refine .inr ?_
          have : some k2 = some k := e.symm.trans hk
          cases this; exact hk2
    · exact .inl (f5 x (List.mem_append.2 (.inr hx)) k hk)
theorem RowIn.tail {w : World} {base t : Nat} {b o n cap : Nat} {x : List Value} {l : List (List Value)} (h : RowIn w base t 1 (some b) (.slice (some ⟨b, o, none⟩) n cap) (x :: l)) :
    RowIn w base t 1 (some b) (.slice (some ⟨b, if cap = 1 then o else o + 1, none⟩) (n - 1) (cap - 1)) l := by
  refine ⟨fun c hc => h.1 c (by simp [hc]), ?_⟩
  rcases h.2 with ⟨e, _⟩ | ⟨b', off, cap', cs, e, ev, hb, hc, h1, h2, h3⟩
  · cases e
  · cases e
    simp only [Value.slice.injEq, Option.some.injEq, Addr.mk.injEq, true_and, and_true, List.length_cons] at ev
    obtain ⟨rfl, rfl, rfl⟩ := ev
    rw [List.length_cons] at h1
    by_cases e1 : cap = 1
    · subst e1
      have hl : l = [] := List.eq_nil_of_length_eq_zero (by omega)
      subst hl
      exact .inr ⟨b, off, 0, cs, rfl, by simp, hb, hc, by simp, by omega, fun i hi => by simp at hi⟩
    · refine .inr ⟨b, off + 1, cap - 1, cs, rfl, by rw [if_neg e1]; simp, hb, hc, by omega, by omega, fun i hi => ?_⟩
      have hx := h.1 x (by simp)
      have := h3 (i + 1) (by rw [List.length_cons]; omega)
      rw [List.flatten_cons, List.getElem?_append_right (by omega), hx] at this
      rw [show (off + 1) * 1 + i = off * 1 + (i + 1) by omega]
      simpa using this
theorem RowIn.head {w : World} {base t : Nat} {b o n cap : Nat} {x : Value} {l : List (List Value)} (h : RowIn w base t 1 (some b) (.slice (some ⟨b, o, none⟩) n cap) ([x] :: l)) : w.cell? ⟨b, o, none⟩ = some x := by
  rcases h.2 with ⟨e, _⟩ | ⟨b', off, cap', cs, e, ev, hb, hc, h1, h2, h3⟩
  · cases e
  · cases e
    simp only [Value.slice.injEq, Option.some.injEq, Addr.mk.injEq, true_and, and_true, List.length_cons] at ev
    obtain ⟨rfl, rfl, rfl⟩ := ev
    have := h3 0 (by simp)
    unfold World.cell?
    simp only [hc]
    simpa using this
theorem RowIn.form {w : World} {base t : Nat} {ob : Option Nat} {v : Value} {x : List Value} {l : List (List Value)} (h : RowIn w base t 1 ob v (x :: l)) : ∃ b o cap, ob = some b ∧ v = .slice (some ⟨b, o, none⟩) (l.length + 1) cap ∧ l.length + 1 ≤ cap := by
  rcases h.2 with ⟨_, _, e⟩ | ⟨b, off, cap, cs, e, ev, hb, hc, h1, h2, h3⟩
  · cases e
  · exact ⟨b, _, cap, e, by simpa using ev, by simpa using h1⟩
theorem RowIn.formNil {w : World} {base t : Nat} {ob : Option Nat} {v : Value} (h : RowIn w base t 1 ob v []) : ∃ A cap, v = .slice A 0 cap := by
  rcases h.2 with ⟨_, e, _⟩ | ⟨b, off, cap, cs, e, ev, hb, hc, h1, h2, h3⟩
  · exact ⟨_, _, e⟩
  · exact ⟨_, cap, by simpa using ev⟩
set_option maxHeartbeats 1000000 in
set_option maxRecDepth 100000 in
theorem give_nil {w : World} {base g bT bM bR : Nat} {vs us : List (Option Nat × Value)} {S : Sd} (h : IsS w base g bT bM bR vs us S) (m : Nat) (hm : m < S.M.length) (hr : (S.M[m]).2 = []) :
    Calls Try.prog 32 #[.pointer (some ⟨g, 0, none⟩), .int .i64 (m : Int)] w fun e w' => e = .returned (.tuple #[]) ∧ IsS w' base g bT bM bR vs us (setM S m (-1, [])) ∧ ∀ F : Nat → Prop, F bM → Moves F w w' := by
  have d1 := h.c1
  obtain ⟨d2, ⟨ob, v0⟩, hv, d3⟩ := h.cM m hm
  have hR := h.rows m _ _ (List.getElem?_eq_getElem hm) hv
  rw [hr] at hR
  obtain ⟨A, cap, e0⟩ := RowIn.formNil (show RowIn w base 3 1 ob v0 [] from hR)
  have d2' : w.cell? ⟨bM, m * 2, none⟩ = some (.int .i64 (S.M[m]).1) := by rw [Nat.mul_comm]; exact d2
  have d3' : w.cell? ⟨bM, m * 2 + 1, none⟩ = some (.slice A 0 cap) := by rw [Nat.mul_comm]; rw [d3, e0]
  have g1 : ((m : Nat) : Int) < (S.M.length : Int) := by omega
  obtain ⟨n1, n2, n3, n4, n5, n6⟩ := h.ne3
  have n2' : ¬ g = bM := fun e => n2 e.symm
  have z1 : w.frozen? ⟨bM, m * 2, none⟩ = false := by simp [World.frozen?, h.M]
  have h1 := h.setO m hm (-1)
  rw [hr] at h1
  have HS := Lib.hid h1
  clear h h1 d2 d3 hv hR e0
  go_enter Try.func32, Try.ntmps32
  go_wp2_with fail
  go_end0
  exact ⟨rfl, HS.out, fun F hF => (Moves.refl F w).store ⟨bM, m * 2, none⟩ _ hF⟩
end Go.Proofs.Ytcfkmhmgappckaa
