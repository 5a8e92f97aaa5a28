import Derived.Test.YtoephmnkenlmiaaTermPlain
import Derived.Test.YtoephmnkenlmiaaOpenTwo
import Derived.Test.YtoephmnkenlmiaaTwo
import Derived.Deep.DeepCutAuto
import Derived.Deep.RegionLaw
import Derived.Deep.RegionHeld3
import Derived.Deep.CutBlock
import Derived.WalkSpells
import Derived.WalkLawsBesides
/-! WordApart: the walk. -/
namespace Go.Proofs.Ytoephmnkenlmiaa
open Go.RowKit Go.Proofs.Ytoephmnkenlmiaa.PAll Go.Proofs.YtoephmnkenlmiaaW.PrintWords Go.Proofs.YtoephmnkenlmiaaW.PrintLast Go.Proofs.YtoephmnkenlmiaaW.PrintMore

theorem two_far {w : World} {rb B t : Nat} {x y u v : Value} (h : Two w B t x y) (hne : B ≠ rb) : Two ((w.setCell ⟨rb, 0, none⟩ u).setCell ⟨rb, 1, none⟩ v) B t x y :=
  ((Below.heap_setCell _ ⟨rb, 1, none⟩ v B hne).trans (Below.heap_setCell w ⟨rb, 0, none⟩ u B hne)).trans h
/-- Behind the stores into one box. -/
theorem fin_facts {w w1 W5 : World} {B B' t : Nat} {x0 y0 x y p q : Value} (hb1 : Below w.heap.size w w1) (hB : w.heap.size ≤ B) (Ta : Two w1 B t x0 y0) (Tb : Two w1 B' t p q) (hne : B' ≠ B) (hT : Below w1.heap.size w1 W5) :
    Two ((W5.setCell ⟨B, 0, none⟩ x).setCell ⟨B, 1, none⟩ y) B t x y ∧ Two ((W5.setCell ⟨B, 0, none⟩ x).setCell ⟨B, 1, none⟩ y) B' t p q ∧ Below w.heap.size w ((W5.setCell ⟨B, 0, none⟩ x).setCell ⟨B, 1, none⟩ y) :=
  ⟨(Ta.below hT).set x y, two_far (Tb.below hT) hne, ((hb1.trans (hT.mono hb1.size)).setCell (p := ⟨B, 0, none⟩) hB x).setCell (p := ⟨B, 1, none⟩) hB y⟩
theorem drew_below {w1 w5 : World} {m : Nat} (hb5 : Below (w1.drewN m).heap.size (w1.drewN m) w5) : Below w1.heap.size w1 w5 := (pw_below_drewN (Below.refl _ w1) m).trans (hb5.mono (Nat.le_of_eq (by simp)))
def Six (N p1 p2 p3 : Nat) (v1 v2 v3 v4 v5 v6 : Value) (W : World) : Prop :=
  (W.cell? ⟨p1, 0, none⟩ = some v1 ∧ W.cell? ⟨p1, 1, none⟩ = some v2 ∧ W.cell? ⟨p2, 0, none⟩ = some v3 ∧ W.cell? ⟨p2, 1, none⟩ = some v4 ∧ W.cell? ⟨p3, 0, none⟩ = some v5 ∧ W.cell? ⟨p3, 1, none⟩ = some v6) ∧ N ≤ W.heap.size
theorem six_below {N p1 p2 p3 : Nat} {v1 v2 v3 v4 v5 v6 : Value} {W W' : World} (h : Six N p1 p2 p3 v1 v2 v3 v4 v5 v6 W) (hb : Below W.heap.size W W') (n1 : p1 < N) (n2 : p2 < N) (n3 : p3 < N) : Six N p1 p2 p3 v1 v2 v3 v4 v5 v6 W' := by
  obtain ⟨h, hN⟩ := h
  exact ⟨⟨(hb.cell (p := ⟨p1, 0, none⟩) (Nat.lt_of_lt_of_le n1 hN)).trans h.1, (hb.cell (p := ⟨p1, 1, none⟩) (Nat.lt_of_lt_of_le n1 hN)).trans h.2.1, (hb.cell (p := ⟨p2, 0, none⟩) (Nat.lt_of_lt_of_le n2 hN)).trans h.2.2.1, (hb.cell (p := ⟨p2, 1, none⟩) (Nat.lt_of_lt_of_le n2 hN)).trans h.2.2.2.1, (hb.cell (p := ⟨p3, 0, none⟩) (Nat.lt_of_lt_of_le n3 hN)).trans h.2.2.2.2.1, (hb.cell (p := ⟨p3, 1, none⟩) (Nat.lt_of_lt_of_le n3 hN)).trans h.2.2.2.2.2⟩, Nat.le_trans hN hb.size⟩
theorem and_swap3 {p q r : Prop} (h : p ∧ q ∧ r) : q ∧ p ∧ r := ⟨h.2.1, h.1, h.2.2⟩
theorem boxed_two {w w' : World} {p : Addr} (hb : Below w.heap.size w w') (hp : p.block < w.heap.size) (h : w.frozen? p = false) : w'.frozen? p = false := by
  unfold World.frozen? at *
  rw [hb.block p.block hp]
  exact h
theorem unlike {a b : ByteArray} (h : a ≠ b) : (a.toList == b.toList) = false := by
  rw [beq_eq_false_iff_ne]
  exact fun e => h (Pure.bytes_ext (by rw [← Pure.toList_data, ← Pure.toList_data, e]))
theorem bel3 {w w6 x y z : World} (h : Below w.heap.size w w6) (h1 : Below w6.drew.heap.size w6.drew x) (h2 : Below x.heap.size x y) (h3 : Below y.heap.size y z) : Below w.heap.size w z := by
  have g1 : Below w6.heap.size w6 x := (Below.refl w6.heap.size w6).drew.trans h1
  exact h.trans ((g1.mono h.size).trans ((h2.mono (Nat.le_trans h.size g1.size)).trans (h3.mono (Nat.le_trans (Nat.le_trans h.size g1.size) h2.size))))
set_option maxHeartbeats 2000000 in
set_option maxRecDepth 100000 in
theorem wordApart_walk (a b c d : ByteArray) (w : World) :
    Calls Try.prog 8 #[.agg #[.string a, .string b], .agg #[.string c, .string d]] w fun e w' => e = .returned (.bool true) ∧ Below w.heap.size w w' := by
  obtain ⟨f, hf, hf2⟩ := Pure.few_ok a 30 (by decide)
  obtain ⟨u, hu, hu2⟩ := Pure.few_ok b 30 (by decide)
  obtain ⟨g, hg, hg2⟩ := Pure.few_ok c 30 (by decide)
  obtain ⟨v, hv, hv2⟩ := Pure.few_ok d 30 (by decide)
  replace hf : concordancelaw02_few.f a 30 = some f := hf
  replace hu : concordancelaw02_few.f b 30 = some u := hu
  replace hg : concordancelaw02_few.f c 30 = some g := hg
  replace hv : concordancelaw02_few.f d 30 = some v := hv
  obtain ⟨k1, h1⟩ := (Pure.clean_ev f (by omega)).rounds
  obtain ⟨k2, h2⟩ := (Pure.clean_ev g (by omega)).rounds
  obtain ⟨hF, hF0⟩ := Pure.clean_facts f hf2
  obtain ⟨hG, hG0⟩ := Pure.clean_facts g hg2
  generalize (⟨(Pure.cleanL f.data.toList).toArray⟩ : ByteArray) = F at *
  generalize (⟨(Pure.cleanL g.data.toList).toArray⟩ : ByteArray) = G at *
  go_enter Try.func8, Try.ntmps8
  go_wp2_with fail
  have hb1 : Below w.heap.size w ((w.alloc (.cells #[.string a, .string b] 39)).alloc (.cells #[.string c, .string d] 39)) := ((Below.refl _ w).alloc (Nat.le_refl _) _).alloc (by simp) _
  have Ta : Two ((w.alloc (.cells #[.string a, .string b] 39)).alloc (.cells #[.string c, .string d] 39)) w.heap.size 39 (.string a) (.string b) := (Two.new w _ _ _).below ((Below.refl _ _).alloc (Nat.le_refl _) _)
  have Tb := Two.new (w.alloc (.cells #[.string a, .string b] 39)) 39 (.string c) (.string d)
  rw [World.size_alloc] at Tb
  generalize (w.alloc (.cells #[.string a, .string b] 39)).alloc (.cells #[.string c, .string d] 39) = w1 at *
  have l1 := Ta.lt
  have l2 := Tb.lt
  have c1 := Ta.cell0
  have c2 := Ta.cell1
  have f1 := Ta.frozen0
  have f2 := Ta.frozen1
  go_cut [] (fun wx => Two wx w.heap.size 39 (.string F) (.string u) ∧ Two wx (w.heap.size + 1) 39 (.string c) (.string d) ∧ Below w.heap.size w wx)
  case first =>
    go_region_with (first | (go_at_call 10; (with_reducible refine (concordancelaw02_few.calls a 30 f _ hf).mono ?_); rintro e w' ⟨rfl, nd, rfl⟩) | (go_at_call 10; (with_reducible refine (concordancelaw02_few.calls b 30 u _ hu).mono ?_); rintro e w' ⟨rfl, nd, rfl⟩) | (go_at_call 20; (with_reducible refine (concordancelaw02_clean.calls k1 f F _ h1).mono ?_); rintro e w5 ⟨rfl, hb5⟩; have d1 := hb5.cell (p := ⟨w.heap.size, 0, none⟩) l1; have d2 := hb5.cell (p := ⟨w.heap.size, 1, none⟩) l1; have d3 := boxed_two hb5 l1 f1; have d4 := boxed_two hb5 l1 f2))
    all_goals
      have hT5 := drew_below hb5
      go_wp2_with fail
      go_meet
      first
        | exact fin_facts hb1 (Nat.le_refl _) Ta Tb (by omega) (pw_below_drewN hT5 _)
        | exact fin_facts hb1 (Nat.le_refl _) Ta Tb (by omega) hT5
  case rest =>
    obtain ⟨Ta2, Tb2, hb2⟩ := hcut
    clear Ta Tb hb1 l1 l2 c1 c2 f1 f2
    go_wp2_with fail
    have l1 := Tb2.lt
    have c1 := Tb2.cell0
    have c2 := Tb2.cell1
    have f1 := Tb2.frozen0
    have f2 := Tb2.frozen1
    go_cut [] (fun wx => Two wx w.heap.size 39 (.string F) (.string u) ∧ Two wx (w.heap.size + 1) 39 (.string G) (.string v) ∧ Below w.heap.size w wx)
    case first =>
      go_region_with (first | (go_at_call 10; (with_reducible refine (concordancelaw02_few.calls c 30 g _ hg).mono ?_); rintro e w' ⟨rfl, nd, rfl⟩) | (go_at_call 10; (with_reducible refine (concordancelaw02_few.calls d 30 v _ hv).mono ?_); rintro e w' ⟨rfl, nd, rfl⟩) | (go_at_call 20; (with_reducible refine (concordancelaw02_clean.calls k2 g G _ h2).mono ?_); rintro e w5 ⟨rfl, hb5⟩; have d1 := hb5.cell (p := ⟨w.heap.size + 1, 0, none⟩) l1; have d2 := hb5.cell (p := ⟨w.heap.size + 1, 1, none⟩) l1; have d3 := boxed_two hb5 l1 f1; have d4 := boxed_two hb5 l1 f2))
      all_goals
        have hT5 := drew_below hb5
        go_wp2_with fail
        go_meet
        first
          | exact and_swap3 (fin_facts hb2 (Nat.le_succ _) Tb2 Ta2 (by omega) (pw_below_drewN hT5 _))
          | exact and_swap3 (fin_facts hb2 (Nat.le_succ _) Tb2 Ta2 (by omega) hT5)
    case rest =>
      obtain ⟨Ta3, Tb3, hb3⟩ := hcut
      clear Ta2 Tb2 hb2 l1 c1 c2 f1 f2
      have hterm : word_Term.f (Pure.keyOf F u) = some (F, u, true) := by rw [Pure.term_ok _ (by rw [Pure.key_size]; omega), Pure.term_key F u hF0]
      have e1 := Ta3.cell0
      have e2 := Ta3.cell1
      go_wp2_with fail
      refine (word_Key.calls F u (Pure.keyOf F u) _ (Pure.key_f F u (by omega) (by omega))).mono ?_
      rintro e w3 ⟨rfl, hb4⟩
      go_wp2_with fail
      refine (word_Term.calls (Pure.keyOf F u) F u true _ hterm).mono ?_
      rintro e w4 ⟨rfl, hb5⟩
      have Ta5 := (Ta3.below hb4).below hb5
      have Tb5 := (Tb3.below hb4).below hb5
      have hb6 : Below w.heap.size w w4 := hb3.trans ((hb4.mono hb3.size).trans (hb5.mono (Nat.le_trans hb3.size hb4.size)))
      clear e1 e2 Ta3 Tb3 hb3 hb4 hb5
      go_wp2_with fail
      have Tc := Two.new w4 39 (.string F) (.string u)
      have Ta6 := Ta5.below ((Below.refl _ w4).alloc (Nat.le_refl _) (.cells #[.string F, .string u] 39))
      have Tb6 := Tb5.below ((Below.refl _ w4).alloc (Nat.le_refl _) (.cells #[.string F, .string u] 39))
      have hb7 := hb6.alloc hb6.size (.cells #[.string F, .string u] 39)
      generalize w4.heap.size = B5 at *
      generalize w4.alloc (.cells #[.string F, .string u] 39) = w6 at *
      clear Ta5 Tb5 hb6
      have m1 := Ta6.cell0
      have m2 := Ta6.cell1
      have m3 := Tb6.cell0
      have m4 := Tb6.cell1
      have m5 := Tc.cell0
      have m6 := Tc.cell1
      have n1 := Ta6.lt
      have n2 := Tb6.lt
      have n3 := Tc.lt
      by_cases hE : F = G
      · subst hE
        by_cases hE2 : u = v
        · subst hE2
          go_region_held3 (fun w' => (w'.cell? ⟨w.heap.size, 0, none⟩ = some (.string F) ∧ w'.cell? ⟨w.heap.size, 1, none⟩ = some (.string u) ∧ w'.cell? ⟨w.heap.size + 1, 0, none⟩ = some (.string F) ∧ w'.cell? ⟨w.heap.size + 1, 1, none⟩ = some (.string u) ∧ w'.cell? ⟨B5, 0, none⟩ = some (.string F) ∧ w'.cell? ⟨B5, 1, none⟩ = some (.string u)) ∧ w6.heap.size ≤ w'.heap.size) (first | assumption | go_keep)
            (first | (go_at_call 22; (with_reducible refine Calls.mono (word_Key.calls F u (Pure.keyOf F u) _ (Pure.key_f F u (by omega) (by omega))) ?_); rintro e w7 ⟨rfl, hb8⟩; have hsix := six_below (by assumption) hb8 n1 n2 n3; unfold Six at hsix) | (go_at_call 15; (with_reducible refine Calls.mono (concordancelaw02_lives.calls true _ Pure.lives_ok) ?_); rintro e w8 ⟨rfl, hb9⟩; have hsix := six_below (by assumption) hb9 n1 n2 n3; unfold Six at hsix))
          all_goals
            go_show
            go_wp2_with fail
            go_ret
            exact ⟨by first | rfl | simp [*], bel3 hb7 (by assumption) hb8 hb9⟩
        · have hk := unlike (a := Pure.keyOf F u) (b := Pure.keyOf F v) (fun h => hE2 (Pure.key_inj hF0 hG0 h).2)
          have hu := unlike hE2
          go_region_held3 (fun w' => (w'.cell? ⟨w.heap.size, 0, none⟩ = some (.string F) ∧ w'.cell? ⟨w.heap.size, 1, none⟩ = some (.string u) ∧ w'.cell? ⟨w.heap.size + 1, 0, none⟩ = some (.string F) ∧ w'.cell? ⟨w.heap.size + 1, 1, none⟩ = some (.string v) ∧ w'.cell? ⟨B5, 0, none⟩ = some (.string F) ∧ w'.cell? ⟨B5, 1, none⟩ = some (.string u)) ∧ w6.heap.size ≤ w'.heap.size) (first | assumption | go_keep)
            (first | (go_at_call 22; (with_reducible refine Calls.mono (word_Key.calls F u (Pure.keyOf F u) _ (Pure.key_f F u (by omega) (by omega))) ?_); rintro e w7 ⟨rfl, hb8⟩; have hsix := six_below (by assumption) hb8 n1 n2 n3; unfold Six at hsix) | (go_at_call 22; (with_reducible refine Calls.mono (word_Key.calls F v (Pure.keyOf F v) _ (Pure.key_f F v (by omega) (by omega))) ?_); rintro e w7 ⟨rfl, hb8⟩; have hsix := six_below (by assumption) hb8 n1 n2 n3; unfold Six at hsix) | (go_at_call 15; (with_reducible refine Calls.mono (concordancelaw02_lives.calls true _ Pure.lives_ok) ?_); rintro e w8 ⟨rfl, hb9⟩; have hsix := six_below (by assumption) hb9 n1 n2 n3; unfold Six at hsix))
          all_goals
            go_show
            go_wp2_with fail
            go_ret
            exact ⟨by first | rfl | simp [*], bel3 hb7 (by assumption) hb8 hb9⟩
      · have hk := unlike (a := Pure.keyOf F u) (b := Pure.keyOf G v) (fun h => hE (Pure.key_inj hF0 hG0 h).1)
        have hu := unlike hE
        go_region_held3 (fun w' => (w'.cell? ⟨w.heap.size, 0, none⟩ = some (.string F) ∧ w'.cell? ⟨w.heap.size, 1, none⟩ = some (.string u) ∧ w'.cell? ⟨w.heap.size + 1, 0, none⟩ = some (.string G) ∧ w'.cell? ⟨w.heap.size + 1, 1, none⟩ = some (.string v) ∧ w'.cell? ⟨B5, 0, none⟩ = some (.string F) ∧ w'.cell? ⟨B5, 1, none⟩ = some (.string u)) ∧ w6.heap.size ≤ w'.heap.size) (first | assumption | go_keep)
          (first | (go_at_call 22; (with_reducible refine Calls.mono (word_Key.calls F u (Pure.keyOf F u) _ (Pure.key_f F u (by omega) (by omega))) ?_); rintro e w7 ⟨rfl, hb8⟩; have hsix := six_below (by assumption) hb8 n1 n2 n3; unfold Six at hsix) | (go_at_call 22; (with_reducible refine Calls.mono (word_Key.calls G v (Pure.keyOf G v) _ (Pure.key_f G v (by omega) (by omega))) ?_); rintro e w7 ⟨rfl, hb8⟩; have hsix := six_below (by assumption) hb8 n1 n2 n3; unfold Six at hsix) | (go_at_call 15; (with_reducible refine Calls.mono (concordancelaw02_lives.calls true _ Pure.lives_ok) ?_); rintro e w8 ⟨rfl, hb9⟩; have hsix := six_below (by assumption) hb9 n1 n2 n3; unfold Six at hsix))
        all_goals
          go_show
          go_wp2_with fail
          go_ret
          exact ⟨by first | rfl | simp [*], bel3 hb7 (by assumption) hb8 hb9⟩
end Go.Proofs.Ytoephmnkenlmiaa
