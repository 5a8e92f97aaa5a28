/- Joined: GiveC, Sch, Lock, Unlock, Lie, Repeat, RepeatW. -/
import Derived.Test.YtcfkmhmgappckaaBnd0
import Derived.Deep.DrawnRows
import Derived.Laws.CopyOwn
import Derived.Deep.RegionLaw
import Derived.Laws.MakeOwn
import Derived.IntWalk
set_option linter.unusedVariables false
set_option linter.unusedSimpArgs false
/- A mutex is given up, and one has it that waited. No condition but on size. -/
namespace Go.Proofs.Ytcfkmhmgappckaa
open Go.RowKit Go.Proofs.Ytcfkmhmgappckaa.Sc Go.Proofs.Ytcfkmhmgappckaa.PAll Go.Proofs.YtcfkmhmgappckaaW.PrintWords Go.Proofs.YtcfkmhmgappckaaW.PrintLast Go.Proofs.YtcfkmhmgappckaaW.PrintMore

theorem grown_refl (w : World) (ob : Option Nat) : w.grownBy w ob := ⟨rfl, rfl, rfl, Nat.le_refl _, fun _ _ _ => rfl⟩
set_option maxHeartbeats 1000000 in
set_option maxRecDepth 100000 in
theorem give_cons {w : World} {base g bT bM bR : Nat} {vs us : List (Option Nat × Value)} {S : Sd} (h : IsS w base g bT bM bR vs us S) (m t : Nat) (r : List Int) (hm : m < S.M.length) (hr : (S.M[m]).2 = (t : Int) :: r) (ht : t < S.T.length) :
    Calls Try.prog 32 #[.pointer (some ⟨g, 0, none⟩), .int .i64 (m : Int)] w fun e w' => e = .returned (.tuple #[]) ∧ ∃ ob ob' v' v0, vs[m]? = some (ob, v0) ∧ ob' = ob ∧ IsS w' base g bT bM bR (vs.set m (ob', v')) us (setT (setM S m ((t : Int), r)) t 0) ∧ ∀ F : Nat → Prop, (F bM ∧ F bT) → Moves F w w' := by
  have d0 := h.c1
  obtain ⟨d2, ⟨ob, v0⟩, hv, d3⟩ := h.cM m hm
  have hR := h.rows m _ _ (List.getElem?_eq_getElem hm) hv
  rw [hr] at hR
  have hR0 : RowIn w base 3 1 ob v0 ([.int .i64 (t : Int)] :: ints r) := hR
  obtain ⟨b, o, cap, e1, e2, hcap⟩ := RowIn.form hR0
  rw [e1, e2] at hR0
  have dh := RowIn.head hR0
  have d2' : w.cell? ⟨bM, m * 2, none⟩ = some (.int .i64 (S.M[m]).1) := by rw [Nat.mul_comm]; exact d2
  have hil : (ints r).length = r.length := by simp [ints]
  rw [hil] at hR0 hcap e2
  have d3' : w.cell? ⟨bM, m * 2 + 1, none⟩ = some (.slice (some ⟨b, o, none⟩) (r.length + 1) cap) := by rw [Nat.mul_comm]; rw [d3, e2]
  have g1 : ((m : Nat) : Int) < (S.M.length : Int) := by omega
  obtain ⟨n1, n2, n3, n4, n5, n6⟩ := h.ne3
  have n2' : ¬ g = bM := fun e => n2 e.symm
  have hmem : (ob, v0) ∈ vs ++ us := by have := List.mem_of_getElem? hv; simp [this]
  have nb1 : ¬ bM = b := fun e => h.far (b := bM) (by simp) _ hmem (by rw [e, ← e1])
  have nb2 : ¬ b = bM := fun e => nb1 e.symm
  have z1 : w.frozen? ⟨bM, m * 2, none⟩ = false := by simp [World.frozen?, h.M]
  have z2 : w.frozen? ⟨bM, m * 2 + 1, none⟩ = false := by simp [World.frozen?, h.M]
  have h1 := h.setO m hm (-1)
  have hR1 : RowIn (w.setCell ⟨bM, m * 2, none⟩ (.int .i64 (-1))) base 3 1 (some b) (.slice (some ⟨b, o, none⟩) (r.length + 1) cap) ([.int .i64 (t : Int)] :: ints r) := hR0.same (fun k hk => Below.heap_setCell w ⟨bM, m * 2, none⟩ _ k (fun e => nb2 (by cases hk; exact e)))
  have hR2 := RowIn.tail hR1
  have hv1 := hv
  rw [e1] at hv1
  have hmS : m < (setM S (m : Int) (-1, (S.M[m]).2)).M.length := by simpa [Sc.setM] using hm
  have h2 := h1.setV m hmS (r' := r) hv1 (grown_refl _ _) hR2 (.inr (.inl rfl))
  have hS2 : (setM (setM S (m : Int) (-1, (S.M[m]).2)) (m : Int) (((setM S (m : Int) (-1, (S.M[m]).2)).M[m]'hmS).1, r)) = setM S m (-1, r) := by simp [Sc.setM]
  rw [hS2] at h2
  have hmu : ((setM S m (-1, r)).M[m]'(by simpa [Sc.setM] using hm)) = (-1, r) := by simp [Sc.setM]
  have h3 := fun w' (hw : IsS w' base g bT bM bR (vs.set m (some b, .slice (some ⟨b, if cap = 1 then o else o + 1, none⟩) (r.length + 1 - 1) (cap - 1))) us (setM S m (-1, r))) => come_free hw t m (by simpa [Sc.setM] using ht) (by simpa [Sc.setM] using hm) (by rw [hmu])
  rw [hmu] at h3
  have hS3 : setT (setM (setM S m (-1, r)) m ((t : Int), r)) t 0 = setT (setM S m ((t : Int), r)) t 0 := by simp [Sc.setM]
  rw [hS3] at h3
  have H1 := Lib.hid h2
  have H3 := Lib.hid h3
  have HV := Lib.hid hv
  have HE := Lib.hid e1
  clear h h1 h2 h3 hS2 hS3 hmu hv1 hR1 hR2 hR0 hR e1 e2 d2 d3 hil hv hmS
  by_cases hc1 : cap = 1
  · have hr0 : r.length = 0 := by omega
    subst hc1
    have hr1 : r = [] := List.eq_nil_of_length_eq_zero hr0
    subst hr1
    rw [if_pos rfl] at H1 H3
    clear hr0
    go_enter Try.func32, Try.ntmps32
    go_wp2_with fail
    refine (H3.out _ H1.out).mono ?_
    rintro e w' ⟨rfl, h5, h6⟩
    have H5 := Lib.hid h5
    have H6 := Lib.hid h6
    clear h5 h6
    go_wp2_with fail
    go_end0
    exact ⟨rfl, ob, some b, _, v0, HV.out, HE.out.symm, H5.out, fun F hF => (((Moves.refl F w).store ⟨bM, m * 2, none⟩ _ hF.1).store ⟨bM, m * 2 + 1, none⟩ _ hF.1).trans' (H6.out F hF)⟩
  · rw [if_neg hc1] at H1 H3
    have g5 : 2 ≤ cap := by omega
    go_enter Try.func32, Try.ntmps32
    go_wp2_with fail
    trace_state
    refine (H3.out _ H1.out).mono ?_
    rintro e w' ⟨rfl, h5, h6⟩
    have H5 := Lib.hid h5
    have H6 := Lib.hid h6
    clear h5 h6
    go_wp2_with fail
    go_end0
    exact ⟨rfl, ob, some b, _, v0, HV.out, HE.out.symm, H5.out, fun F hF => (((Moves.refl F w).store ⟨bM, m * 2, none⟩ _ hF.1).store ⟨bM, m * 2 + 1, none⟩ _ hF.1).trans' (H6.out F hF)⟩
end Go.Proofs.Ytcfkmhmgappckaa

/- A mutex is given up; what may not be. No condition but on size. -/
namespace Go.Proofs.Ytcfkmhmgappckaa
open Go.RowKit Go.Proofs.Ytcfkmhmgappckaa.Sc Go.Proofs.Ytcfkmhmgappckaa.PAll Go.Proofs.YtcfkmhmgappckaaW.PrintWords Go.Proofs.YtcfkmhmgappckaaW.PrintLast Go.Proofs.YtcfkmhmgappckaaW.PrintMore

section
variable {w w1 w2 : World} {base g : Nat} {F : Nat → Prop} {S S1 S2 : Sd}
theorem Sch.below (h : Sch w base g F S) (hb : Below w.heap.size w w1) : Sch w1 base g F S := by
  obtain ⟨h0, bT, bM, bR, vs, us, h1, h2⟩ := h
  exact ⟨fun k hk => ⟨(h0 k hk).1, Nat.lt_of_lt_of_le (h0 k hk).2 hb.size⟩, bT, bM, bR, vs, us, h1.below hb, h2⟩
theorem Sch.mono {F' : Nat → Prop} (h : Sch w base g F S) (hF : ∀ k, F k → F' k) (hb : ∀ k, F' k → base ≤ k ∧ k < w.heap.size) : Sch w base g F' S := by
  obtain ⟨h0, bT, bM, bR, vs, us, h1, a, b, c, d, e⟩ := h
  exact ⟨hb, bT, bM, bR, vs, us, h1, hF _ a, hF _ b, hF _ c, hF _ d, fun x hx k hk => hF _ (e x hx k hk)⟩
theorem Next.pre (hb : Below w.heap.size w w1) (h0 : ∀ k, F k → base ≤ k ∧ k < w.heap.size) (hbase : base ≤ w.heap.size) (h : Next w1 base g F S w2) : Next w base g F S w2 :=
  ⟨h.1.mono (fun k hk => hk.imp id (fun e => ⟨Nat.le_trans hb.size e.1, e.2⟩)) (fun k hk => hk.elim (fun e => ⟨(h0 k e).1, Nat.lt_of_lt_of_le (h0 k e).2 (Nat.le_trans hb.size h.2.size)⟩) (fun e => ⟨Nat.le_trans hbase e.1, e.2⟩)), ((Moves.refl F w).below hb).trans' h.2⟩
theorem Next.of_below (h : Sch w base g F S) (hbase : base ≤ w.heap.size) (hb : Below w.heap.size w w1) : Next w base g F S w1 :=
  ⟨(h.below hb).mono (fun _ hk => .inl hk) (fun k hk => hk.elim (fun e => ⟨(h.1 k e).1, Nat.lt_of_lt_of_le (h.1 k e).2 hb.size⟩) (fun e => ⟨Nat.le_trans hbase e.1, e.2⟩)), (Moves.refl F w).below hb⟩
theorem Next.trans (h : Next w base g F S1 w1) (hk : Next w1 base g (Plus F w w1) S2 w2) : Next w base g F S2 w2 :=
  ⟨hk.1.mono (fun k q => by
      rcases q with (q | q) | q
      · exact .inl q
      · exact .inr ⟨q.1, Nat.lt_of_lt_of_le q.2 hk.2.size⟩
      · exact .inr ⟨Nat.le_trans h.2.size q.1, q.2⟩) (fun k q => by
      have := hk.1.1
      rcases q with q | q
      · exact this k (.inl (.inl q))
      · rcases Nat.lt_or_ge k w1.heap.size with h3 | h3
        · exact this k (.inl (.inr ⟨q.1, h3⟩))
        · exact this k (.inr ⟨h3, q.2⟩)), h.2.trans hk.2⟩
/-- Something else that lies apart lies as it lay. -/
theorem Sch.apart {G : Nat → Prop} {g2 : Nat} (h : Sch w base g2 G S) (hm : Moves F w w1) (hd : ∀ k, G k → ¬ F k) : Sch w1 base g2 G S := by
  obtain ⟨h0, bT, bM, bR, vs, us, h1, a, b, c, d, e⟩ := h
  have hk : ∀ k, G k → w1.heap[k]? = w.heap[k]? := fun k hk => hm.block k (h0 k hk).2 (hd k hk)
  refine ⟨fun k hk => ⟨(h0 k hk).1, Nat.lt_of_lt_of_le (h0 k hk).2 hm.size⟩, bT, bM, bR, vs, us, ?_, a, b, c, d, e⟩
  have hr : ∀ {t sz : Nat} {v : Option Nat × Value} {l : List (List Value)}, v ∈ vs ++ us → RowIn w base t sz v.1 v.2 l → RowIn w1 base t sz v.1 v.2 l := fun hv hR => hR.same (fun k hb => hk k (e _ hv k hb))
  exact ⟨h1.ge, (hk _ a).trans h1.cell, h1.geT, h1.geM, h1.geR, (hk _ b).trans h1.T, h1.lenV, (hk _ c).trans h1.M, fun i x v p q => hr (List.mem_append.2 (.inl (List.mem_of_getElem? q))) (h1.rows i x v p q), h1.lenU, (hk _ d).trans h1.R, fun i x u p q => hr (List.mem_append.2 (.inr (List.mem_of_getElem? q))) (h1.rests i x u p q), h1.apart⟩
end
theorem give_any {w : World} {base g : Nat} {F : Nat → Prop} {S : Sd} (h : Sch w base g F S) (hb : base ≤ w.heap.size) (m : Int) (hm : there S.M m = true) (ht : ∀ t r, (mu S m).2 = t :: r → there S.T t = true) :
    Calls Try.prog 32 #[.pointer (some ⟨g, 0, none⟩), .int .i64 m] w fun e w' => e = .returned (.tuple #[]) ∧ Next w base g F (give S m) w' := by
  have hm1 := (there_iff _ _).1 hm
  obtain ⟨m, rfl⟩ := Int.eq_ofNat_of_zero_le hm1.1
  have hm2 : m < S.M.length := by omega
  have hmu : mu S (m : Int) = S.M[m] := by
    unfold mu; rw [Int.toNat_natCast, List.getD_eq_getElem?_getD, List.getElem?_eq_getElem hm2]; rfl
  obtain ⟨hF0, bT, bM, bR, vs, us, hS, f1, f2, f3, f4, f5⟩ := id h
  cases hr : (mu S (m : Int)).2 with
  | nil =>
    have e : give S m = setM S m (-1, []) := by unfold give; rw [hr]
    rw [e]
    refine (give_nil hS m hm2 (by rw [← hmu]; exact hr)).mono ?_
    rintro e w' ⟨rfl, h1, h2⟩
    exact ⟨rfl, h.next hb h1 (h2 F f3) ⟨f1, f2, f3, f4⟩ (fun x hx k hk => .inl (f5 x hx k hk))⟩
  | cons t r =>
    have ht1 := (there_iff _ _).1 (ht t r hr)
    obtain ⟨t, rfl⟩ := Int.eq_ofNat_of_zero_le ht1.1
    rw [give_set S m t r hm hr]
    refine (give_cons hS m t r hm2 (by rw [← hmu]; exact hr) (by omega)).mono ?_
    rintro e w' ⟨rfl, ob, ob', v', v0, hv, rfl, h1, h2⟩
    have hobF : ∀ k, ob' = some k → F k := fun k hk => f5 (ob', v0) (List.mem_append.2 (.inl (List.mem_of_getElem? hv))) k hk
    refine ⟨rfl, h.next hb h1 (h2 F ⟨f3, f2⟩) ⟨f1, f2, f3, f4⟩ (fun x hx k hk => ?_)⟩
    rcases List.mem_append.1 hx with hx | hx
    · rcases mem_set_or hx with hx | rfl
      · exact .inl (f5 x (List.mem_append.2 (.inl hx)) k hk)
      · exact .inl (hobF k hk)
    · exact .inl (f5 x (List.mem_append.2 (.inr hx)) k hk)
theorem Ok.giveT {S : Sd} {more : List Int} (h : Ok S more) (m : Int) (hm : there S.M m = true) (t : Int) (r : List Int) (hr : (mu S m).2 = t :: r) : there S.T t = true := by
  have h1 := rows_setM S m (-1, []) hm t
  have h2 := h.row t
  rw [hr, List.count_cons_self] at h1
  by_cases e : stT S t = 1
  · exact stT_there S t (by omega)
  · rw [if_neg e] at h2; simp at h1; omega

theorem contains_false (a b : Bool) : slices_Contains_bool_bool.f 4 [a, b] false = some (!(a && b)) := by
  cases a <;> cases b <;> decide +kernel
theorem contains_one (a : Bool) : slices_Contains_bool_bool.f 4 [a] false = some (!a) := by
  cases a <;> decide +kernel
theorem first_two (w : World) (b : Nat) (x y z : Bool) (h1 : w.cell? ⟨b, 0, none⟩ = some (.bool y)) (h2 : w.cell? ⟨b, 1, none⟩ = some (.bool z)) :
    Calls Try.prog 28 #[.bool x, .slice (some ⟨b, 0, none⟩) 2 2] w fun e w' => e = .returned (.int .i64 (first x (y && z))) ∧ Below w.heap.size w w' := by
  have hC : Kd.C Kd.bool w (some ⟨b, 0, none⟩) 2 [y, z] := by
    refine ⟨rfl, by omega, fun _ => ⟨_, rfl, fun j p hj => ⟨[.bool p], rfl, rfl, fun i u hu => ?_⟩⟩⟩
    cases i with
    | succ i => simp at hu
    | zero =>
      obtain rfl : Value.bool p = u := by simpa using hu
      match j, hj with
      | 0, hj => obtain rfl : y = p := by simpa using hj
                 exact h1
      | 1, hj => obtain rfl : z = p := by simpa using hj
                 exact h2
  refine (sched_first.calls 4 x _ 2 [y, z] (first x (y && z)) w hC (by simp) ?_).mono (fun e w' ⟨h, hd⟩ => ⟨h, hd.below⟩)
  unfold sched_first.f
  rw [contains_false]
  cases x <;> cases y <;> cases z <;> rfl
theorem first_one (w : World) (b : Nat) (x y : Bool) (h1 : w.cell? ⟨b, 0, none⟩ = some (.bool y)) :
    Calls Try.prog 28 #[.bool x, .slice (some ⟨b, 0, none⟩) 1 1] w fun e w' => e = .returned (.int .i64 (first x y)) ∧ Below w.heap.size w w' := by
  have hC : Kd.C Kd.bool w (some ⟨b, 0, none⟩) 1 [y] := by
    refine ⟨rfl, by omega, fun _ => ⟨_, rfl, fun j p hj => ⟨[.bool p], rfl, rfl, fun i u hu => ?_⟩⟩⟩
    cases i with
    | succ i => simp at hu
    | zero =>
      obtain rfl : Value.bool p = u := by simpa using hu
      match j, hj with
      | 0, hj => obtain rfl : y = p := by simpa using hj
                 exact h1
  refine (sched_first.calls 4 x _ 1 [y] (first x y) w hC (by simp) ?_).mono (fun e w' ⟨h, hd⟩ => ⟨h, hd.below⟩)
  unfold sched_first.f
  rw [contains_one]
  cases x <;> cases y <;> rfl
end Go.Proofs.Ytcfkmhmgappckaa

/- Lock. No condition but on size. -/
namespace Go.Proofs.Ytcfkmhmgappckaa
open Go.RowKit Go.Proofs.Ytcfkmhmgappckaa.Sc Go.Proofs.Ytcfkmhmgappckaa.PAll Go.Proofs.YtcfkmhmgappckaaW.PrintWords Go.Proofs.YtcfkmhmgappckaaW.PrintLast Go.Proofs.YtcfkmhmgappckaaW.PrintMore

theorem cell_at_new (w : World) (c : Array Value) (t : TypeId) (i : Nat) (v : Value) (h : c[i]? = some v) : (w.alloc (.cells c t (0, 0))).cell? ⟨w.heap.size, i, none⟩ = some v := by
  have : (w.alloc (.cells c t (0, 0))).heap[w.heap.size]? = some (.cells c t (0, 0)) := heap_alloc_new w _
  unfold World.cell?
  simp only [this]
  exact h
theorem inB_there {α : Type} (l : List α) (t : Int) : inB l.length t = there l t := rfl
theorem Sch.cells {w : World} {base g : Nat} {F : Nat → Prop} {S : Sd} (h : Sch w base g F S) : ∃ bT bM bR : Nat, w.cell? ⟨g, 0, none⟩ = some (.slice (some ⟨bT, 0, none⟩) S.T.length S.T.length) ∧ w.cell? ⟨g, 1, none⟩ = some (.slice (some ⟨bM, 0, none⟩) S.M.length S.M.length) ∧ w.cell? ⟨g, 2, none⟩ = some (.slice (some ⟨bR, 0, none⟩) S.R.length S.R.length) := by
  obtain ⟨_, bT, bM, bR, vs, us, h1, _⟩ := h
  exact ⟨bT, bM, bR, h1.c0, h1.c1, h1.c2⟩
theorem state_sch {w : World} {base g : Nat} {F : Nat → Prop} {S : Sd} (h : Sch w base g F S) (hn : S.T.length ≤ 1000) (t : Int) :
    Calls Try.prog 16 #[.pointer (some ⟨g, 0, none⟩), .int .i64 t] w fun e w' => e = .returned (.int .i64 (stT S t)) ∧ w' = w := by
  obtain ⟨_, bT, bM, bR, vs, us, h1, _⟩ := h
  exact state_any h1 hn t
theorem owner_sch {w : World} {base g : Nat} {F : Nat → Prop} {S : Sd} (h : Sch w base g F S) (hn : S.M.length ≤ 1000) (t : Int) :
    Calls Try.prog 11 #[.pointer (some ⟨g, 0, none⟩), .int .i64 t] w fun e w' => e = .returned (.int .i64 (owner S t)) ∧ w' = w := by
  obtain ⟨_, bT, bM, bR, vs, us, h1, _⟩ := h
  exact owner_any h1 hn t
theorem lockE_eq (S : Sd) (t m : Int) : first (there S.T t && there S.M m) ((stT S t == 0) && (owner S m != t)) = lockE S t m := by
  unfold lockE
  congr 2
  · rw [Bool.eq_iff_iff]; simp
set_option maxHeartbeats 1000000 in
set_option maxRecDepth 100000 in
theorem lock_no {w : World} {base g : Nat} {F : Nat → Prop} {S : Sd} (h : Sch w base g F S) (hT : S.T.length ≤ 1000) (hM : S.M.length ≤ 1000) (t m : Int) (hE : lockE S t m ≠ 0) :
    Calls Try.prog 10 #[.pointer (some ⟨g, 0, none⟩), .int .i64 t, .int .i64 m] w fun e w' => e = .returned (.tuple #[.bool false, .int .i64 (lockE S t m)]) ∧ Below w.heap.size w w' := by
  obtain ⟨bT, bM, bR, d0, d1, d2⟩ := h.cells
  have hst := state_sch h hT t
  have how := owner_sch h hM m
  have hle := lockE_eq S t m
  have hne : (lockE S t m != 0) = true := by simpa using hE
  have HST := Lib.hid hst
  have HOW := Lib.hid how
  have HLE := Lib.hid hle
  have HS := Lib.hid h
  clear h hst how hle
  by_cases ht : there S.T t = true
  · go_enter Try.func10, Try.ntmps10
    go_wp2_with fail
    refine (in_int _ _ _ _ _ (by omega)).mono ?_
    rintro e w' ⟨rfl, rfl⟩
    rw [inB_there, ht]
    go_wp2_with fail
    refine (in_mutex _ _ _ _ _ (by omega)).mono ?_
    rintro e w' ⟨rfl, rfl⟩
    rw [inB_there]
    go_wp2_with fail
    refine HST.out.mono ?_
    rintro e w' ⟨rfl, rfl⟩
    go_wp2_with fail
    refine HOW.out.mono ?_
    rintro e w' ⟨rfl, rfl⟩
    go_wp2_with fail
    refine (first_two _ _ _ _ _ (cell_at_new _ _ _ 0 _ rfl) (cell_at_new _ _ _ 1 _ rfl)).mono ?_
    rintro e w1 ⟨rfl, hb⟩
    have HB := Lib.hid ((below_alloc (Below.refl _ _) _).trans (hb.mono (by simp)))
    clear hb
    have hle := HLE.out
    rw [ht, Bool.true_and] at hle
    rw [hle]
    clear hle
    go_wp2_with fail
    go_ret2
    exact ⟨rfl, HB.out⟩
  · have ht2 : there S.T t = false := by simpa using ht
    go_enter Try.func10, Try.ntmps10
    go_wp2_with fail
    refine (in_int _ _ _ _ _ (by omega)).mono ?_
    rintro e w' ⟨rfl, rfl⟩
    rw [inB_there, ht2]
    go_wp2_with fail
    refine HST.out.mono ?_
    rintro e w' ⟨rfl, rfl⟩
    go_wp2_with fail
    refine HOW.out.mono ?_
    rintro e w' ⟨rfl, rfl⟩
    go_wp2_with fail
    refine (first_two _ _ _ _ _ (cell_at_new _ _ _ 0 _ rfl) (cell_at_new _ _ _ 1 _ rfl)).mono ?_
    rintro e w1 ⟨rfl, hb⟩
    have HB := Lib.hid ((below_alloc (Below.refl _ _) _).trans (hb.mono (by simp)))
    clear hb
    have hle := HLE.out
    rw [ht2, Bool.false_and] at hle
    rw [hle]
    clear hle
    go_wp2_with fail
    go_ret2
    exact ⟨rfl, HB.out⟩
theorem Below.up {w w1 w2 : World} (h : Below w.heap.size w w1) (k : Below w1.heap.size w1 w2) : Below w.heap.size w w2 := h.trans (k.mono h.size)
set_option maxHeartbeats 1000000 in
set_option maxRecDepth 100000 in
theorem lock_yes {w : World} {base g : Nat} {F : Nat → Prop} {S : Sd} (h : Sch w base g F S) (hb : base ≤ w.heap.size) (hk : Ok S []) (hT : S.T.length ≤ 1000) (hM : S.M.length ≤ 1000) (t m : Int) (hE : lockE S t m = 0) :
    Calls Try.prog 10 #[.pointer (some ⟨g, 0, none⟩), .int .i64 t, .int .i64 m] w fun e w' => e = .returned (.tuple #[.bool (come S t m).2, .int .i64 0]) ∧ Next w base g F (come S t m).1 w' := by
  obtain ⟨bT, bM, bR, d0, d1, d2⟩ := h.cells
  have hst := state_sch h hT t
  have how := owner_sch h hM m
  have hle := lockE_eq S t m
  rw [hE] at hle
  have hx := (first_eq _ _).1 hle
  simp only [Bool.and_eq_true] at hx
  have ht := hx.1.1
  have hm := hx.1.2
  rw [ht, hm, Bool.true_and] at hle
  have hco : ∀ w1, Below w.heap.size w w1 → Calls Try.prog 31 #[.pointer (some ⟨g, 0, none⟩), .int .i64 t, .int .i64 m] w1 fun e w' => e = .returned (.bool (come S t m).2) ∧ Next w1 base g F (come S t m).1 w' := fun w1 hb1 =>
    come_any (h.below hb1) (Nat.le_trans hb hb1.size) t m ht hm (Nat.le_trans (hk.rowFew _ (mu_mem S m hm)) hT)
  have HST := Lib.hid hst
  have HOW := Lib.hid how
  have HLE := Lib.hid hle
  have HCO := Lib.hid hco
  have HF0 := Lib.hid h.1
  clear h hst how hle hco hx hk
  go_enter Try.func10, Try.ntmps10
  go_wp2_with fail
  refine (in_int _ _ _ _ _ (by omega)).mono ?_
  rintro e w' ⟨rfl, rfl⟩
  rw [inB_there, ht]
  go_wp2_with fail
  refine (in_mutex _ _ _ _ _ (by omega)).mono ?_
  rintro e w' ⟨rfl, rfl⟩
  rw [inB_there, hm]
  go_wp2_with fail
  refine HST.out.mono ?_
  rintro e w' ⟨rfl, rfl⟩
  go_wp2_with fail
  refine HOW.out.mono ?_
  rintro e w' ⟨rfl, rfl⟩
  go_wp2_with fail
  refine (first_two _ _ _ _ _ (cell_at_new _ _ _ 0 _ rfl) (cell_at_new _ _ _ 1 _ rfl)).mono ?_
  rintro e w1 ⟨rfl, hb1⟩
  have HB := Lib.hid ((below_alloc (Below.refl _ _) _).trans (hb1.mono (by simp)))
  clear hb1
  have hle := HLE.out
  rw [hle]
  clear hle
  go_wp2_with fail
  refine (HCO.out _ HB.out).mono ?_
  rintro e w2 ⟨rfl, hn⟩
  have HN := Lib.hid hn
  clear hn
  go_wp2_with fail
  go_ret2
  exact ⟨rfl, Next.pre HB.out HF0.out hb HN.out⟩
theorem lock_any {w : World} {base g : Nat} {F : Nat → Prop} {S : Sd} (h : Sch w base g F S) (hb : base ≤ w.heap.size) (hk : Ok S []) (hT : S.T.length ≤ 1000) (hM : S.M.length ≤ 1000) (t m : Int) :
    Calls Try.prog 10 #[.pointer (some ⟨g, 0, none⟩), .int .i64 t, .int .i64 m] w fun e w' => e = .returned (.tuple #[.bool (lock S t m).2.1, .int .i64 (lock S t m).2.2]) ∧ Next w base g F (lock S t m).1 w' := by
  unfold Sc.lock
  by_cases hE : lockE S t m = 0
  · rw [if_neg (by omega)]
    exact lock_yes h hb hk hT hM t m hE
  · rw [if_pos hE]
    exact (lock_no h hT hM t m hE).mono (fun e w' ⟨h1, h2⟩ => ⟨h1, Next.of_below h hb h2⟩)
end Go.Proofs.Ytcfkmhmgappckaa

/- Unlock; what Wait and Rest ask. No condition but on size. -/
namespace Go.Proofs.Ytcfkmhmgappckaa
open Go.RowKit Go.Proofs.Ytcfkmhmgappckaa.Sc Go.Proofs.Ytcfkmhmgappckaa.PAll Go.Proofs.YtcfkmhmgappckaaW.PrintWords Go.Proofs.YtcfkmhmgappckaaW.PrintLast Go.Proofs.YtcfkmhmgappckaaW.PrintMore

theorem unlockE_eq (S : Sd) (t m : Int) : first (there S.T t && there S.M m) ((stT S t == 0) && (owner S m == t)) = unlockE S t m := by
  unfold unlockE
  congr 2
set_option maxHeartbeats 1000000 in
set_option maxRecDepth 100000 in
theorem unlock_no {w : World} {base g : Nat} {F : Nat → Prop} {S : Sd} (h : Sch w base g F S) (hT : S.T.length ≤ 1000) (hM : S.M.length ≤ 1000) (hR : S.R.length ≤ 1000) (t m : Int) (hE : unlockE S t m ≠ 0) :
    Calls Try.prog 13 #[.pointer (some ⟨g, 0, none⟩), .int .i64 t, .int .i64 m] w fun e w' => e = .returned (.int .i64 (unlockE S t m)) ∧ Below w.heap.size w w' := by
  obtain ⟨bT, bM, bR, d0, d1, d2⟩ := h.cells
  have HST := Lib.hid (state_sch h hT t)
  have HOW := Lib.hid (owner_sch h hM m)
  have HLE := Lib.hid (unlockE_eq S t m)
  have hne : (unlockE S t m == 0) = false := by simpa using hE
  clear h
  by_cases nT : there S.T t = false
  · go_enter Try.func13, Try.ntmps13
    go_wp2_with fail
    refine (in_int _ _ _ _ _ (by omega)).mono ?_
    rintro e w' ⟨rfl, rfl⟩
    rw [inB_there, nT]
    go_wp2_with fail
    refine HST.out.mono ?_
    rintro e w' ⟨rfl, rfl⟩
    go_wp2_with fail
    refine HOW.out.mono ?_
    rintro e w' ⟨rfl, rfl⟩
    go_wp2_with fail
    refine (first_two _ _ _ _ _ (cell_at_new _ _ _ 0 _ rfl) (cell_at_new _ _ _ 1 _ rfl)).mono ?_
    rintro e w1 ⟨rfl, hb1⟩
    have HB := Lib.hid ((below_alloc (Below.refl _ _) _).trans (hb1.mono (by simp)))
    clear hb1
    have hle := HLE.out
    rw [nT] at hle
    simp only [Bool.true_and, Bool.false_and, Bool.and_true, Bool.and_false] at hle
    rw [hle]
    clear hle
    go_wp2_with fail
    go_ret
    exact ⟨rfl, HB.out⟩
  · have hT : there S.T t = true := by simpa using nT
    clear nT
    go_enter Try.func13, Try.ntmps13
    go_wp2_with fail
    refine (in_int _ _ _ _ _ (by omega)).mono ?_
    rintro e w' ⟨rfl, rfl⟩
    rw [inB_there, hT]
    go_wp2_with fail
    refine (in_mutex _ _ _ _ _ (by omega)).mono ?_
    rintro e w' ⟨rfl, rfl⟩
    rw [inB_there]
    go_wp2_with fail
    refine HST.out.mono ?_
    rintro e w' ⟨rfl, rfl⟩
    go_wp2_with fail
    refine HOW.out.mono ?_
    rintro e w' ⟨rfl, rfl⟩
    go_wp2_with fail
    refine (first_two _ _ _ _ _ (cell_at_new _ _ _ 0 _ rfl) (cell_at_new _ _ _ 1 _ rfl)).mono ?_
    rintro e w1 ⟨rfl, hb1⟩
    have HB := Lib.hid ((below_alloc (Below.refl _ _) _).trans (hb1.mono (by simp)))
    clear hb1
    have hle := HLE.out
    rw [hT] at hle
    simp only [Bool.true_and, Bool.false_and, Bool.and_true, Bool.and_false] at hle
    rw [hle]
    clear hle
    go_wp2_with fail
    go_ret
    exact ⟨rfl, HB.out⟩
theorem waitE_eq (S : Sd) (t c m : Int) : first (there S.T t && there S.M m && there S.R c) ((stT S t == 0) && (owner S m == t)) = waitE S t c m := by
  unfold waitE
  congr 2
set_option maxHeartbeats 1000000 in
set_option maxRecDepth 100000 in
theorem wait_no {w : World} {base g : Nat} {F : Nat → Prop} {S : Sd} (h : Sch w base g F S) (hT : S.T.length ≤ 1000) (hM : S.M.length ≤ 1000) (hR : S.R.length ≤ 1000) (t c m : Int) (hE : waitE S t c m ≠ 0) :
    Calls Try.prog 15 #[.pointer (some ⟨g, 0, none⟩), .int .i64 t, .int .i64 c, .int .i64 m] w fun e w' => e = .returned (.int .i64 (waitE S t c m)) ∧ Below w.heap.size w w' := by
  obtain ⟨bT, bM, bR, d0, d1, d2⟩ := h.cells
  have HST := Lib.hid (state_sch h hT t)
  have HOW := Lib.hid (owner_sch h hM m)
  have HLE := Lib.hid (waitE_eq S t c m)
  have hne : (waitE S t c m == 0) = false := by simpa using hE
  clear h
  by_cases nT : there S.T t = false
  · go_enter Try.func15, Try.ntmps15
    go_wp2_with fail
    refine (in_int _ _ _ _ _ (by omega)).mono ?_
    rintro e w' ⟨rfl, rfl⟩
    rw [inB_there, nT]
    go_wp2_with fail
    refine HST.out.mono ?_
    rintro e w' ⟨rfl, rfl⟩
    go_wp2_with fail
    refine HOW.out.mono ?_
    rintro e w' ⟨rfl, rfl⟩
    go_wp2_with fail
    refine (first_two _ _ _ _ _ (cell_at_new _ _ _ 0 _ rfl) (cell_at_new _ _ _ 1 _ rfl)).mono ?_
    rintro e w1 ⟨rfl, hb1⟩
    have HB := Lib.hid ((below_alloc (Below.refl _ _) _).trans (hb1.mono (by simp)))
    clear hb1
    have hle := HLE.out
    rw [nT] at hle
    simp only [Bool.true_and, Bool.false_and, Bool.and_true, Bool.and_false] at hle
    rw [hle]
    clear hle
    go_wp2_with fail
    go_ret
    exact ⟨rfl, HB.out⟩
  · have hT : there S.T t = true := by simpa using nT
    clear nT
    by_cases nM : there S.M m = false
    · go_enter Try.func15, Try.ntmps15
      go_wp2_with fail
      refine (in_int _ _ _ _ _ (by omega)).mono ?_
      rintro e w' ⟨rfl, rfl⟩
      rw [inB_there, hT]
      go_wp2_with fail
      refine (in_mutex _ _ _ _ _ (by omega)).mono ?_
      rintro e w' ⟨rfl, rfl⟩
      rw [inB_there, nM]
      go_wp2_with fail
      refine HST.out.mono ?_
      rintro e w' ⟨rfl, rfl⟩
      go_wp2_with fail
      refine HOW.out.mono ?_
      rintro e w' ⟨rfl, rfl⟩
      go_wp2_with fail
      refine (first_two _ _ _ _ _ (cell_at_new _ _ _ 0 _ rfl) (cell_at_new _ _ _ 1 _ rfl)).mono ?_
      rintro e w1 ⟨rfl, hb1⟩
      have HB := Lib.hid ((below_alloc (Below.refl _ _) _).trans (hb1.mono (by simp)))
      clear hb1
      have hle := HLE.out
      rw [hT, nM] at hle
      simp only [Bool.true_and, Bool.false_and, Bool.and_true, Bool.and_false] at hle
      rw [hle]
      clear hle
      go_wp2_with fail
      go_ret
      exact ⟨rfl, HB.out⟩
    · have hM : there S.M m = true := by simpa using nM
      clear nM
      go_enter Try.func15, Try.ntmps15
      go_wp2_with fail
      refine (in_int _ _ _ _ _ (by omega)).mono ?_
      rintro e w' ⟨rfl, rfl⟩
      rw [inB_there, hT]
      go_wp2_with fail
      refine (in_mutex _ _ _ _ _ (by omega)).mono ?_
      rintro e w' ⟨rfl, rfl⟩
      rw [inB_there, hM]
      go_wp2_with fail
      refine (in_rests _ _ _ _ _ (by omega)).mono ?_
      rintro e w' ⟨rfl, rfl⟩
      rw [inB_there]
      go_wp2_with fail
      refine HST.out.mono ?_
      rintro e w' ⟨rfl, rfl⟩
      go_wp2_with fail
      refine HOW.out.mono ?_
      rintro e w' ⟨rfl, rfl⟩
      go_wp2_with fail
      refine (first_two _ _ _ _ _ (cell_at_new _ _ _ 0 _ rfl) (cell_at_new _ _ _ 1 _ rfl)).mono ?_
      rintro e w1 ⟨rfl, hb1⟩
      have HB := Lib.hid ((below_alloc (Below.refl _ _) _).trans (hb1.mono (by simp)))
      clear hb1
      have hle := HLE.out
      rw [hT, hM] at hle
      simp only [Bool.true_and, Bool.false_and, Bool.and_true, Bool.and_false] at hle
      rw [hle]
      clear hle
      go_wp2_with fail
      go_ret
      exact ⟨rfl, HB.out⟩
theorem restE_eq (S : Sd) (t c : Int) : first (there S.T t && there S.R c) (stT S t == 0) = restE S t c := by
  unfold restE
  congr 2
set_option maxHeartbeats 1000000 in
set_option maxRecDepth 100000 in
theorem rest_no {w : World} {base g : Nat} {F : Nat → Prop} {S : Sd} (h : Sch w base g F S) (hT : S.T.length ≤ 1000) (hM : S.M.length ≤ 1000) (hR : S.R.length ≤ 1000) (t c : Int) (hE : restE S t c ≠ 0) :
    Calls Try.prog 26 #[.pointer (some ⟨g, 0, none⟩), .int .i64 t, .int .i64 c] w fun e w' => e = .returned (.int .i64 (restE S t c)) ∧ Below w.heap.size w w' := by
  obtain ⟨bT, bM, bR, d0, d1, d2⟩ := h.cells
  have HST := Lib.hid (state_sch h hT t)
  have HLE := Lib.hid (restE_eq S t c)
  have hne : (restE S t c == 0) = false := by simpa using hE
  clear h
  by_cases nT : there S.T t = false
  · go_enter Try.func26, Try.ntmps26
    go_wp2_with fail
    refine (in_int _ _ _ _ _ (by omega)).mono ?_
    rintro e w' ⟨rfl, rfl⟩
    rw [inB_there, nT]
    go_wp2_with fail
    refine HST.out.mono ?_
    rintro e w' ⟨rfl, rfl⟩
    go_wp2_with fail
    refine (first_one _ _ _ _ (cell_at_new _ _ _ 0 _ rfl)).mono ?_
    rintro e w1 ⟨rfl, hb1⟩
    have HB := Lib.hid ((below_alloc (Below.refl _ _) _).trans (hb1.mono (by simp)))
    clear hb1
    have hle := HLE.out
    rw [nT] at hle
    simp only [Bool.true_and, Bool.false_and, Bool.and_true, Bool.and_false] at hle
    rw [hle]
    clear hle
    go_wp2_with fail
    go_ret
    exact ⟨rfl, HB.out⟩
  · have hT : there S.T t = true := by simpa using nT
    clear nT
    go_enter Try.func26, Try.ntmps26
    go_wp2_with fail
    refine (in_int _ _ _ _ _ (by omega)).mono ?_
    rintro e w' ⟨rfl, rfl⟩
    rw [inB_there, hT]
    go_wp2_with fail
    refine (in_rests _ _ _ _ _ (by omega)).mono ?_
    rintro e w' ⟨rfl, rfl⟩
    rw [inB_there]
    go_wp2_with fail
    refine HST.out.mono ?_
    rintro e w' ⟨rfl, rfl⟩
    go_wp2_with fail
    refine (first_one _ _ _ _ (cell_at_new _ _ _ 0 _ rfl)).mono ?_
    rintro e w1 ⟨rfl, hb1⟩
    have HB := Lib.hid ((below_alloc (Below.refl _ _) _).trans (hb1.mono (by simp)))
    clear hb1
    have hle := HLE.out
    rw [hT] at hle
    simp only [Bool.true_and, Bool.false_and, Bool.and_true, Bool.and_false] at hle
    rw [hle]
    clear hle
    go_wp2_with fail
    go_ret
    exact ⟨rfl, HB.out⟩
set_option maxHeartbeats 1000000 in
set_option maxRecDepth 100000 in
theorem unlock_yes {w : World} {base g : Nat} {F : Nat → Prop} {S : Sd} (h : Sch w base g F S) (hb : base ≤ w.heap.size) (hk : Ok S []) (hT : S.T.length ≤ 1000) (hM : S.M.length ≤ 1000) (hR : S.R.length ≤ 1000) (t m : Int) (hE : unlockE S t m = 0) :
    Calls Try.prog 13 #[.pointer (some ⟨g, 0, none⟩), .int .i64 t, .int .i64 m] w fun e w' => e = .returned (.int .i64 0) ∧ Next w base g F (give S m) w' := by
  obtain ⟨bT, bM, bR, d0, d1, d2⟩ := h.cells
  have HST := Lib.hid (state_sch h hT t)
  have HOW := Lib.hid (owner_sch h hM m)
  have hle := unlockE_eq S t m
  rw [hE] at hle
  have hx := (first_eq _ _).1 hle
  simp only [Bool.and_eq_true] at hx
  have hT := hx.1.1
  have hM := hx.1.2
  rw [hT, hM] at hle
  simp only [Bool.true_and, Bool.and_true] at hle
  have HG := Lib.hid (fun w1 (hb1 : Below w.heap.size w w1) => give_any (h.below hb1) (Nat.le_trans hb hb1.size) m hx.1.2 (fun t r hr => Ok.giveT hk m hx.1.2 t r hr))
  have HF0 := Lib.hid h.1
  clear h hk
  have HLE := Lib.hid hle
  clear hle hx
  go_enter Try.func13, Try.ntmps13
  go_wp2_with fail
  refine (in_int _ _ _ _ _ (by omega)).mono ?_
  rintro e w' ⟨rfl, rfl⟩
  rw [inB_there, hT]
  go_wp2_with fail
  refine (in_mutex _ _ _ _ _ (by omega)).mono ?_
  rintro e w' ⟨rfl, rfl⟩
  rw [inB_there, hM]
  go_wp2_with fail
  refine HST.out.mono ?_
  rintro e w' ⟨rfl, rfl⟩
  go_wp2_with fail
  refine HOW.out.mono ?_
  rintro e w' ⟨rfl, rfl⟩
  go_wp2_with fail
  refine (first_two _ _ _ _ _ (cell_at_new _ _ _ 0 _ rfl) (cell_at_new _ _ _ 1 _ rfl)).mono ?_
  rintro e w1 ⟨rfl, hb1⟩
  have HB := Lib.hid ((below_alloc (Below.refl _ _) _).trans (hb1.mono (by simp)))
  clear hb1
  have hle := HLE.out
  rw [hle]
  clear hle
  go_wp2_with fail
  refine (HG.out _ HB.out).mono ?_
  rintro e w2 ⟨rfl, hn⟩
  have HN := Lib.hid hn
  clear hn
  go_wp2_with fail
  go_ret
  exact ⟨rfl, Next.pre HB.out HF0.out hb HN.out⟩
theorem unlock_any {w : World} {base g : Nat} {F : Nat → Prop} {S : Sd} (h : Sch w base g F S) (hb : base ≤ w.heap.size) (hk : Ok S []) (hT : S.T.length ≤ 1000) (hM : S.M.length ≤ 1000) (hR : S.R.length ≤ 1000) (t m : Int) :
    Calls Try.prog 13 #[.pointer (some ⟨g, 0, none⟩), .int .i64 t, .int .i64 m] w fun e w' => e = .returned (.int .i64 (unlock S t m).2) ∧ Next w base g F (unlock S t m).1 w' := by
  unfold Sc.unlock
  by_cases hE : unlockE S t m = 0
  · simp only [if_pos hE]
    rw [hE]
    exact unlock_yes h hb hk hT hM hR t m hE
  · simp only [if_neg hE]
    exact (unlock_no h hT hM hR t m hE).mono (fun e w' ⟨h1, h2⟩ => ⟨h1, Next.of_below h hb h2⟩)
end Go.Proofs.Ytcfkmhmgappckaa

/- Wait and Rest, where they may be. No condition but on size. -/
namespace Go.Proofs.Ytcfkmhmgappckaa
open Go.RowKit Go.Proofs.Ytcfkmhmgappckaa.Sc Go.Proofs.Ytcfkmhmgappckaa.PAll Go.Proofs.YtcfkmhmgappckaaW.PrintWords Go.Proofs.YtcfkmhmgappckaaW.PrintLast Go.Proofs.YtcfkmhmgappckaaW.PrintMore

section
variable {w w1 : World} {base g bT bM bR : Nat} {vs us : List (Option Nat × Value)} {S : Sd}
theorem IsS.cR (h : IsS w base g bT bM bR vs us S) (c : Nat) (hc : c < S.R.length) : ∃ u, us[c]? = some u ∧ w.cell? ⟨bR, c, none⟩ = some u.2 := by
  have hu : c < us.length := by have := h.lenU; omega
  exact ⟨us[c], List.getElem?_eq_getElem hu, by simp [World.cell?, h.R, hu]⟩
/-- Another row for a condition. -/
theorem IsS.setU (h : IsS w base g bT bM bR vs us S) (c : Nat) (hc : c < S.R.length) {ob : Option Nat} {u0 : Value} (hu : us[c]? = some (ob, u0)) (hg : w.grownBy w1 ob) {ob' : Option Nat} {v' : Value} {x' : List (Int × Int)}
    (hR : RowIn w1 base 67 2 ob' v' (pairs x')) (hob : ob' = none ∨ ob' = ob ∨ ∃ k, ob' = some k ∧ w.heap.size ≤ k) :
    IsS (w1.setCell ⟨bR, c, none⟩ v') base g bT bM bR vs (us.set c (ob', v')) (Sc.setR S c x') := by
  have hul : c < us.length := by have := h.lenU; omega
  have hmem : (ob, u0) ∈ vs ++ us := by have := List.mem_of_getElem? hu; simp [this]
  have hfar : ∀ b, (b = g ∨ b = bT ∨ b = bM ∨ b = bR) → w1.heap[b]? = w.heap[b]? := fun b hb => hg.block b (h.blocks hb).2 (fun e => h.far hb _ hmem e.symm)
  have hs : ∀ k, k ≠ bR → (w1.setCell ⟨bR, c, none⟩ v').heap[k]? = w1.heap[k]? := fun k hk => Below.heap_setCell w1 ⟨bR, c, none⟩ _ k hk
  obtain ⟨n1, n2, n3, n4, n5, n6⟩ := h.ne3
  have hbR : ob' ≠ some bR := by
    rcases hob with e | e | ⟨k, e, hk⟩
    · rw [e]; simp
    · rw [e]; exact h.far (by simp) _ hmem
    · rw [e]; have := (h.blocks (b := bR) (by simp)).2; intro e2; cases e2; omega
  have hap := h.apart
  have hat : (vs ++ us)[vs.length + c]? = some (ob, u0) := by rw [List.getElem?_append_right (by omega), Nat.add_sub_cancel_left]; exact hu
  have hothers : ∀ (i : Nat) (x : Option Nat × Value), (vs ++ us)[i]? = some x → i ≠ vs.length + c → ∀ b, x.1 = some b → ob ≠ some b := by
    intro i x hi hne b hb e
    have hp := (List.pairwise_append.1 hap).2.1
    rw [List.pairwise_iff_getElem] at hp
    obtain ⟨hi2, hi3⟩ := List.getElem?_eq_some_iff.1 hi
    obtain ⟨hm2, hm3⟩ := List.getElem?_eq_some_iff.1 hat
    rcases Nat.lt_or_gt_of_ne hne with hlt | hlt
    · have := hp i (vs.length + c) (by simpa using hi2) (by simpa using hm2) hlt
      simp only [List.getElem_map, hi3, hm3, hb, e] at this
      simp at this
    · have := hp (vs.length + c) i (by simpa using hm2) (by simpa using hi2) hlt
      simp only [List.getElem_map, hi3, hm3, hb, e] at this
      simp at this
  have hkeep : ∀ (i : Nat) (x : Option Nat × Value), (vs ++ us)[i]? = some x → i ≠ vs.length + c → ∀ b, x.1 = some b → (w1.setCell ⟨bR, c, none⟩ v').heap[b]? = w.heap[b]? := by
    intro i x hi hne b hb
    have hx := List.mem_of_getElem? hi
    rw [hs b (fun e => h.far (b := bR) (by simp) x hx (by rw [hb, e]))]
    exact hg.block b (h.ltV x hx b hb).2 (fun e => hothers i x hi hne b hb e.symm)
  refine ⟨h.ge, ?_, h.geT, h.geM, h.geR, (hs _ n5).trans ((hfar bT (by simp)).trans h.T), h.lenV, (hs _ n6).trans ((hfar bM (by simp)).trans h.M), fun i a v p q => ?_, ?_, ?_, fun i a u p q => ?_, ?_⟩
  · rw [hs _ (Ne.symm n3), hfar g (by simp), h.cell]
    simp [Sc.setR]
  · exact (h.rows i a v p q).same (hkeep i v (by rw [List.getElem?_append_left (by have := (List.getElem?_eq_some_iff.1 q).1; exact this)]; exact q) (by have := (List.getElem?_eq_some_iff.1 q).1; omega))
  · rw [List.length_set, h.lenU]; simp [Sc.setR]
  · have hR2 := (hfar bR (by simp)).trans h.R
    simp [World.setCell, hR2, Array.getElem?_modify, List.map_set]
  · have p' : (S.R.set c x')[i]? = some a := by simpa [Sc.setR] using p
    by_cases e : c = i
    · subst e
      rw [List.getElem?_set_self hc] at p'
      rw [List.getElem?_set_self hul] at q
      obtain rfl := Option.some.inj p'
      obtain rfl := Option.some.inj q
      exact hR.same (fun b e => hs b (fun e2 => hbR (by rw [← e2, ← e])))
    · rw [List.getElem?_set_ne e] at p' q
      exact (h.rests i a u p' q).same (hkeep (vs.length + i) u (by rw [List.getElem?_append_right (by omega), Nat.add_sub_cancel_left]; exact q) (by omega))
  · have e1 : [some g, some bT, some bM, some bR] ++ (vs ++ us.set c (ob', v')).map (·.1) = ([some g, some bT, some bM, some bR] ++ (vs ++ us).map (·.1)).set (4 + (vs.length + c)) ob' := by
      rw [List.set_append_right _ _ (by simp), show vs ++ us.set c (ob', v') = (vs ++ us).set (vs.length + c) (ob', v') by rw [List.set_append_right _ _ (by omega), Nat.add_sub_cancel_left], List.map_set]
      congr 2
      simp
    rw [e1]
    rcases hob with rfl | rfl | ⟨k, rfl, hk⟩
    · exact pairwise_set (R := fun a b => a = none ∨ b = none ∨ a ≠ b) apart_symm _ _ _ hap (fun z _ => .inl rfl)
    · rw [set_self' _ _ _ (by
        rw [List.getElem?_append_right (by simp)]
        simp only [List.length_cons, List.length_nil, Nat.add_sub_cancel_left, List.getElem?_map, hat, Option.map_some])]
      exact hap
    · refine pairwise_set (R := fun a b => a = none ∨ b = none ∨ a ≠ b) apart_symm _ _ _ hap (fun z hz => ?_)
      cases z with
      | none => exact .inr (.inl rfl)
      | some b =>
        refine .inr (.inr fun e => ?_)
        cases e
        rcases List.mem_append.1 hz with hz | hz
        · have := (h.blocks (b := k) (by simpa using hz)).2; omega
        · obtain ⟨x, hx, e⟩ := List.mem_map.1 hz
          have := (h.ltV x hx k e).2; omega
end
theorem infoRest : (Try.prog.info? 67).map (fun i => (i.zero, i.size, i.bytes)) = some (some (.agg #[.int .i64 0, .int .i64 0]), 2, 16) := by kernel_rfl
attribute [local go_sem ↓] Go.wp_at_zero Go.wp_at_succ
set_option maxHeartbeats 4000000 in
set_option maxRecDepth 100000 in
theorem wait_nat {w : World} {base g : Nat} {F : Nat → Prop} {S : Sd} (h : Sch w base g F S) (hb : base ≤ w.heap.size) (hk : Ok S []) (lT : S.T.length ≤ 1000) (lM : S.M.length ≤ 1000) (lR : S.R.length ≤ 1000) (t c : Nat) (m : Int) (hE : waitE S t c m = 0) :
    Calls Try.prog 15 #[.pointer (some ⟨g, 0, none⟩), .int .i64 (t : Int), .int .i64 (c : Int), .int .i64 m] w fun e w' => e = .returned (.int .i64 0) ∧ Next w base g F ((wait S t c m).1) w' := by
  obtain ⟨i0, hi, hz0, hz1, hz2⟩ := info_parts infoRest
  have HST := Lib.hid (state_sch h lT t)
  have HOW := Lib.hid (owner_sch h lM m)
  have hle := waitE_eq S t c m
  rw [hE] at hle
  have hx := (first_eq _ _).1 hle
  simp only [Bool.and_eq_true, beq_iff_eq] at hx
  have hT := hx.1.1.1
  have hM := hx.1.1.2
  have hR := hx.1.2
  rw [hT, hM, hR] at hle
  simp only [Bool.true_and, Bool.and_true] at hle
  have ht0 : stT S t = 0 := hx.2.1
  have ht1 : t < S.T.length := by have := (there_iff _ _).1 hT; omega
  have hc1 : c < S.R.length := by have := (there_iff _ _).1 hR; omega
  have hre : S.R.getD (c : Int).toNat [] = S.R[c] := by rw [Int.toNat_natCast, List.getD_eq_getElem?_getD, List.getElem?_eq_getElem hc1]; rfl
  have hko := hk.lie (t : Int) (c : Int) m ht0 hR (.inr hM)
  rw [hre] at hko
  have hrl : (S.R[c]).length ≤ 1000 := Nat.le_trans (hk.restFew _ (List.getElem_mem _)) lT
  obtain ⟨bT, bM, bR, vs, us, hS, f1, f2, f3, f4, f5⟩ := h.2
  have d0 := hS.c0
  have d1 := hS.c1
  have d2 := hS.c2
  have HS := Lib.hid hS
  have HH := Lib.hid h
  have HKO := Lib.hid hko
  have HLE := Lib.hid hle
  have HF5 := Lib.hid f5
  have HE := Lib.hid hE
  clear hle hx h hS hk hko f5 hE hre ht0
  go_enter Try.func15, Try.ntmps15
  go_wp2_with fail
  refine (in_int _ _ _ _ _ (by omega)).mono ?_
  rintro e w' ⟨rfl, hw'⟩
  rw [hw']
  clear hw' w'
  rw [inB_there, hT]
  go_wp2_with fail
  refine (in_mutex _ _ _ _ _ (by omega)).mono ?_
  rintro e w' ⟨rfl, hw'⟩
  rw [hw']
  clear hw' w'
  rw [inB_there, hM]
  go_wp2_with fail
  refine (in_rests _ _ _ _ _ (by omega)).mono ?_
  rintro e w' ⟨rfl, hw'⟩
  rw [hw']
  clear hw' w'
  rw [inB_there, hR]
  go_wp2_with fail
  refine HST.out.mono ?_
  rintro e w' ⟨rfl, hw'⟩
  rw [hw']
  clear hw' w'
  go_wp2_with fail
  refine HOW.out.mono ?_
  rintro e w' ⟨rfl, hw'⟩
  rw [hw']
  clear hw' w'
  go_wp2_with fail
  refine (first_two _ _ _ _ _ (cell_at_new _ _ _ 0 _ rfl) (cell_at_new _ _ _ 1 _ rfl)).mono ?_
  rintro e w1 ⟨rfl, hb1⟩
  have HB := Lib.hid ((below_alloc (Below.refl _ _) _).trans (hb1.mono (by simp)))
  clear hb1
  have hle := HLE.out
  rw [hle]
  clear hle
  have h1 := HS.out.below HB.out
  have d0 := h1.c0
  have d4 := h1.cT t ht1
  have z4 : w1.frozen? ⟨bT, t, none⟩ = false := by simp [World.frozen?, h1.T]
  have g2 : ((t : Nat) : Int) < (S.T.length : Int) := by omega
  have h2 := h1.setT t ht1 2
  have H2 := Lib.hid h2
  clear h1 h2
  go_upto_region 4 with fail
  obtain ⟨w2, hw2⟩ : ∃ w2, w2 = w1.setCell ⟨bT, t, none⟩ (.int .i64 2) := ⟨_, rfl⟩
  have hM2 : ∀ F : Nat → Prop, F bT → Moves F w w2 := fun F hF => by rw [hw2]; exact (((Moves.refl F w).below HB.out).store _ _ hF)
  have HM2 := Lib.hid hM2
  rw [← hw2] at H2 ⊢
  have h2 := H2.out
  have hc2 : c < (Sc.setT S t 2).R.length := hc1
  obtain ⟨⟨ob, u0⟩, hu, d6⟩ := h2.cR c hc2
  have hR2 := h2.rests c _ _ (List.getElem?_eq_getElem hc2) hu
  have d7 := h2.c2
  obtain ⟨n1, n2, n3, n4, n5, n6⟩ := h2.ne3
  have g3 : ((c : Nat) : Int) < (S.R.length : Int) := by omega
  have hmem : (ob, u0) ∈ vs ++ us := by have := List.mem_of_getElem? hu; simp [this]
  have q1 := (World.cell?_alloc_some w2 _ (Obj.cells #[Value.int IntKind.i64 ↑t, Value.int IntKind.i64 m] 67 (0, 0)) (by rw [d7]; rfl)).trans d7
  have q2 := (World.cell?_alloc_some w2 _ (Obj.cells #[Value.int IntKind.i64 ↑t, Value.int IntKind.i64 m] 67 (0, 0)) (by rw [d6]; rfl)).trans d6
  have hk1 : ∀ o : Obj, (w2.drew.alloc o).heap.size = w2.heap.size + 1 := fun o => by simp
  have hk2 : ∀ (o : Obj) k, k < w2.heap.size → (w2.drew.alloc o).heap[k]? = w2.heap[k]? := fun o k hk => (Below.refl w2.heap.size w2.drew).alloc (Nat.le_refl _) o |>.block k hk
  have hW : ∀ o : Obj, IsS (w2.drew.alloc o) base g bT bM bR vs us (Sc.setT S t 2) := fun o => h2.kept (hk2 o)
  have hRW : ∀ o : Obj, RowIn (w2.drew.alloc o) base 67 2 ob u0 (pairs (S.R[c])) := fun o => (hW o).rests c _ _ (List.getElem?_eq_getElem hc2) hu
  have hszM : base ≤ w2.heap.size := Nat.le_trans hb (HM2.out (fun _ => True) trivial).size
  have hbW : ∀ o : Obj, base ≤ (w2.drew.alloc o).heap.size := fun o => by rw [hk1]; omega
  have hF : ∀ (o : Obj) (w1 : World), (w2.drew.alloc o).grownBy w1 ob → w1.cell? ⟨bR, c, none⟩ = some u0 ∧ w1.frozen? ⟨bR, c, none⟩ = false ∧ w1.cell? ⟨g, 2, none⟩ = some (.slice (some ⟨bR, 0, none⟩) S.R.length S.R.length) := by
    intro o w1 hgr
    have hx : ∀ b, (b = g ∨ b = bT ∨ b = bM ∨ b = bR) → w1.heap[b]? = w2.heap[b]? := fun b hb2 =>
      (hgr.block b (by rw [hk1]; exact Nat.lt_succ_of_lt (h2.blocks hb2).2) (fun e => h2.far hb2 _ hmem e.symm)).trans (hk2 o b (h2.blocks hb2).2)
    refine ⟨?_, ?_, ?_⟩
    · rw [← d6]; unfold World.cell?; simp only [hx bR (by simp)]
    · unfold World.frozen?; simp only [hx bR (by simp), h2.R]; rfl
    · refine Eq.trans ?_ d7; unfold World.cell?; simp only [hx g (by simp)]
  have hc0 : ∀ j u, [Value.int .i64 (t : Int), Value.int .i64 m][j]? = some u → (w2.drew.alloc (Obj.cells #[Value.int IntKind.i64 ↑t, Value.int IntKind.i64 m] 67 (0, 0))).cell? ((⟨w2.heap.size, 0, none⟩ : Addr).add j) = some u := by
    intro j u hj
    rw [Addr.add_lit]
    match j with
    | 0 => obtain rfl : Value.int .i64 (t : Int) = u := by simpa using hj
           exact cell_at_new w2.drew _ _ 0 _ rfl
    | 1 => obtain rfl : Value.int .i64 m = u := by simpa using hj
           exact cell_at_new w2.drew _ _ 1 _ rfl
    | j + 2 => simp at hj
  have hone : ∀ u ∈ [Value.int .i64 (t : Int), Value.int .i64 m], u.oneCell' = true := by simp [Value.oneCell']
  have hpl : (pairs (S.R[c])).length = (S.R[c]).length := by simp [pairs]
  have hb1 : (pairs (S.R[c])).length + 1 ≤ maxLen := by unfold maxLen; omega
  have hb2 : ((pairs (S.R[c])).length + 1) * 16 ≤ 140737488355328 := by omega
  have HW := Lib.hid hW
  have HRW := Lib.hid hRW
  have HBW := Lib.hid hbW
  have HFF := Lib.hid hF
  have HC0 := Lib.hid hc0
  have HU := Lib.hid hu
  have HK1 := Lib.hid hk1
  clear hW hRW hbW hF hc0 hk1 hk2 h2 hM2 hR2 hu hw2 d4 z4 hpl
  go_region_law ((refine step_push rfl (.tmp 62) (.tmp 66) 65 rfl 67 i0 (.agg #[.int .i64 0, .int .i64 0]) 2 16 Try.underlying65 hi hz0 hz1 hz2 rfl (by decide) (HRW.out _) rfl ⟨w2.heap.size, 0, none⟩ 1 [.int .i64 (t : Int), .int .i64 m] rfl rfl HC0.out hone hb1 hb2 (HBW.out _) ?_; intro ob' A' n' c' w3 hR3 hgrow hob; obtain ⟨y1, y2, y3⟩ := HFF.out _ _ hgrow))
  all_goals
    have h0 := HW.out (Obj.cells #[Value.int IntKind.i64 ↑t, Value.int IntKind.i64 m] 67 (0, 0))
    have hr : pairs (S.R[c]) ++ [[Value.int .i64 (t : Int), .int .i64 m]] = pairs (S.R[c] ++ [((t : Int), m)]) := by simp [pairs]
    rw [hr] at hR3
    have h4 := h0.setU c hc2 HU.out hgrow hR3 (.inr (hob.imp id (fun ⟨k, e1, e2⟩ => ⟨k, e1, e2⟩)))
    have hobF : ∀ k, ob = some k → F k := fun k hk => HF5.out (ob, u0) hmem k hk
    have hmv : Moves F w (w3.setCell ⟨bR, c, none⟩ (.slice A' n' c')) :=
      (((HM2.out F f2).below ((Below.refl w.heap.size w2).drew.alloc (HM2.out F f2).size (Obj.cells #[Value.int IntKind.i64 ↑t, Value.int IntKind.i64 m] 67 (0, 0)))).grown hgrow (fun k hk => .inl (hobF k hk))).store _ _ f4
    have hnx : Next w base g F (setR (setT S t 2) c (S.R[c] ++ [((t : Int), m)])) (w3.setCell ⟨bR, c, none⟩ (.slice A' n' c')) := HH.out.next hb h4 hmv ⟨f1, f2, f3, f4⟩ (fun x hx k hk => by
      rcases List.mem_append.1 hx with hx | hx
      · exact .inl (HF5.out x (List.mem_append.2 (.inl hx)) k hk)
      · rcases mem_set_or hx with hx | rfl
        · exact .inl (HF5.out x (List.mem_append.2 (.inr hx)) k hk)
        · rcases hob with e | ⟨k2, e, hk2⟩
          · exact .inl (hobF k (by rw [← e]; exact hk))
          · refine .inr ?_
            have : some k2 = some k := e.symm.trans hk
            cases this
            have := HM2.out F f2
            exact Nat.le_trans this.size (Nat.le_trans (Nat.le_succ _) (Nat.le_trans (Nat.le_of_eq (HK1.out _).symm) hk2)))
    have HNX := Lib.hid hnx
    clear h0 h4 hmv hnx hob hR3 hgrow hobF
    have hgv : Calls Try.prog 32 #[.pointer (some ⟨g, 0, none⟩), .int .i64 m] (w3.setCell ⟨bR, c, none⟩ (.slice A' n' c')) fun e w' => e = .returned (.tuple #[]) ∧ Next (w3.setCell ⟨bR, c, none⟩ (.slice A' n' c')) base g (Plus F w (w3.setCell ⟨bR, c, none⟩ (.slice A' n' c'))) (give (setR (setT S t 2) c (S.R[c] ++ [((t : Int), m)])) m) w' :=
      give_any HNX.out.1 (Nat.le_trans hb HNX.out.2.size) m hM (fun u r hu => Ok.giveT HKO.out m hM u r hu)
    have HGV := Lib.hid hgv
    clear hgv
    go_wp2_with fail
    refine HGV.out.mono ?_
    rintro e w5 ⟨rfl, hn5⟩
    have HN5 := Lib.hid (HNX.out.trans hn5)
    clear hn5
    go_wp2_with fail
    go_ret
    refine ⟨rfl, ?_⟩
    have hwt : (wait S t c m).1 = give (setR (setT S t 2) c (S.R[c] ++ [((t : Int), m)])) m := by
      have hre : S.R.getD (c : Int).toNat [] = S.R[c] := by rw [Int.toNat_natCast, List.getD_eq_getElem?_getD, List.getElem?_eq_getElem hc1]; rfl
      unfold Sc.wait
      rw [if_pos HE.out, hre]
    rw [hwt]
    exact HN5.out
set_option maxHeartbeats 4000000 in
set_option maxRecDepth 100000 in
theorem rest_nat {w : World} {base g : Nat} {F : Nat → Prop} {S : Sd} (h : Sch w base g F S) (hb : base ≤ w.heap.size) (hk : Ok S []) (lT : S.T.length ≤ 1000) (lM : S.M.length ≤ 1000) (lR : S.R.length ≤ 1000) (t c : Nat) (hE : restE S t c = 0) :
    Calls Try.prog 26 #[.pointer (some ⟨g, 0, none⟩), .int .i64 (t : Int), .int .i64 (c : Int)] w fun e w' => e = .returned (.int .i64 0) ∧ Next w base g F ((Sc.rest S t c).1) w' := by
  obtain ⟨i0, hi, hz0, hz1, hz2⟩ := info_parts infoRest
  have HST := Lib.hid (state_sch h lT t)
  have hle := restE_eq S t c
  rw [hE] at hle
  have hx := (first_eq _ _).1 hle
  simp only [Bool.and_eq_true, beq_iff_eq] at hx
  have hT := hx.1.1
  have hR := hx.1.2
  rw [hT, hR] at hle
  simp only [Bool.true_and, Bool.and_true] at hle
  have ht0 : stT S t = 0 := hx.2
  have ht1 : t < S.T.length := by have := (there_iff _ _).1 hT; omega
  have hc1 : c < S.R.length := by have := (there_iff _ _).1 hR; omega
  have hre : S.R.getD (c : Int).toNat [] = S.R[c] := by rw [Int.toNat_natCast, List.getD_eq_getElem?_getD, List.getElem?_eq_getElem hc1]; rfl
  have hko := hk.lie (t : Int) (c : Int) (-1) ht0 hR (.inl rfl)
  rw [hre] at hko
  have hrl : (S.R[c]).length ≤ 1000 := Nat.le_trans (hk.restFew _ (List.getElem_mem _)) lT
  obtain ⟨bT, bM, bR, vs, us, hS, f1, f2, f3, f4, f5⟩ := h.2
  have d0 := hS.c0
  have d1 := hS.c1
  have d2 := hS.c2
  have HS := Lib.hid hS
  have HH := Lib.hid h
  have HKO := Lib.hid hko
  have HLE := Lib.hid hle
  have HF5 := Lib.hid f5
  have HE := Lib.hid hE
  clear hle hx h hS hk hko f5 hE hre ht0
  go_enter Try.func26, Try.ntmps26
  go_wp2_with fail
  refine (in_int _ _ _ _ _ (by omega)).mono ?_
  rintro e w' ⟨rfl, hw'⟩
  rw [hw']
  clear hw' w'
  rw [inB_there, hT]
  go_wp2_with fail
  refine (in_rests _ _ _ _ _ (by omega)).mono ?_
  rintro e w' ⟨rfl, hw'⟩
  rw [hw']
  clear hw' w'
  rw [inB_there, hR]
  go_wp2_with fail
  refine HST.out.mono ?_
  rintro e w' ⟨rfl, hw'⟩
  rw [hw']
  clear hw' w'
  go_wp2_with fail
  refine (first_one _ _ _ _ (cell_at_new _ _ _ 0 _ rfl)).mono ?_
  rintro e w1 ⟨rfl, hb1⟩
  have HB := Lib.hid ((below_alloc (Below.refl _ _) _).trans (hb1.mono (by simp)))
  clear hb1
  have hle := HLE.out
  rw [hle]
  clear hle
  have h1 := HS.out.below HB.out
  have d0 := h1.c0
  have d4 := h1.cT t ht1
  have z4 : w1.frozen? ⟨bT, t, none⟩ = false := by simp [World.frozen?, h1.T]
  have g2 : ((t : Nat) : Int) < (S.T.length : Int) := by omega
  have h2 := h1.setT t ht1 2
  have H2 := Lib.hid h2
  clear h1 h2
  go_upto_region 4 with fail
  obtain ⟨w2, hw2⟩ : ∃ w2, w2 = w1.setCell ⟨bT, t, none⟩ (.int .i64 2) := ⟨_, rfl⟩
  have hM2 : ∀ F : Nat → Prop, F bT → Moves F w w2 := fun F hF => by rw [hw2]; exact (((Moves.refl F w).below HB.out).store _ _ hF)
  have HM2 := Lib.hid hM2
  rw [← hw2] at H2 ⊢
  have h2 := H2.out
  have hc2 : c < (Sc.setT S t 2).R.length := hc1
  obtain ⟨⟨ob, u0⟩, hu, d6⟩ := h2.cR c hc2
  have hR2 := h2.rests c _ _ (List.getElem?_eq_getElem hc2) hu
  have d7 := h2.c2
  obtain ⟨n1, n2, n3, n4, n5, n6⟩ := h2.ne3
  have g3 : ((c : Nat) : Int) < (S.R.length : Int) := by omega
  have hmem : (ob, u0) ∈ vs ++ us := by have := List.mem_of_getElem? hu; simp [this]
  have q1 := (World.cell?_alloc_some w2 _ (Obj.cells #[Value.int IntKind.i64 ↑t, Value.int IntKind.i64 (-1)] 67 (0, 0)) (by rw [d7]; rfl)).trans d7
  have q2 := (World.cell?_alloc_some w2 _ (Obj.cells #[Value.int IntKind.i64 ↑t, Value.int IntKind.i64 (-1)] 67 (0, 0)) (by rw [d6]; rfl)).trans d6
  have hk1 : ∀ o : Obj, (w2.drew.alloc o).heap.size = w2.heap.size + 1 := fun o => by simp
  have hk2 : ∀ (o : Obj) k, k < w2.heap.size → (w2.drew.alloc o).heap[k]? = w2.heap[k]? := fun o k hk => (Below.refl w2.heap.size w2.drew).alloc (Nat.le_refl _) o |>.block k hk
  have hW : ∀ o : Obj, IsS (w2.drew.alloc o) base g bT bM bR vs us (Sc.setT S t 2) := fun o => h2.kept (hk2 o)
  have hRW : ∀ o : Obj, RowIn (w2.drew.alloc o) base 67 2 ob u0 (pairs (S.R[c])) := fun o => (hW o).rests c _ _ (List.getElem?_eq_getElem hc2) hu
  have hszM : base ≤ w2.heap.size := Nat.le_trans hb (HM2.out (fun _ => True) trivial).size
  have hbW : ∀ o : Obj, base ≤ (w2.drew.alloc o).heap.size := fun o => by rw [hk1]; omega
  have hF : ∀ (o : Obj) (w1 : World), (w2.drew.alloc o).grownBy w1 ob → w1.cell? ⟨bR, c, none⟩ = some u0 ∧ w1.frozen? ⟨bR, c, none⟩ = false ∧ w1.cell? ⟨g, 2, none⟩ = some (.slice (some ⟨bR, 0, none⟩) S.R.length S.R.length) := by
    intro o w1 hgr
    have hx : ∀ b, (b = g ∨ b = bT ∨ b = bM ∨ b = bR) → w1.heap[b]? = w2.heap[b]? := fun b hb2 =>
      (hgr.block b (by rw [hk1]; exact Nat.lt_succ_of_lt (h2.blocks hb2).2) (fun e => h2.far hb2 _ hmem e.symm)).trans (hk2 o b (h2.blocks hb2).2)
    refine ⟨?_, ?_, ?_⟩
    · rw [← d6]; unfold World.cell?; simp only [hx bR (by simp)]
    · unfold World.frozen?; simp only [hx bR (by simp), h2.R]; rfl
    · refine Eq.trans ?_ d7; unfold World.cell?; simp only [hx g (by simp)]
  have hc0 : ∀ j u, [Value.int .i64 (t : Int), Value.int .i64 (-1)][j]? = some u → (w2.drew.alloc (Obj.cells #[Value.int IntKind.i64 ↑t, Value.int IntKind.i64 (-1)] 67 (0, 0))).cell? ((⟨w2.heap.size, 0, none⟩ : Addr).add j) = some u := by
    intro j u hj
    rw [Addr.add_lit]
    match j with
    | 0 => obtain rfl : Value.int .i64 (t : Int) = u := by simpa using hj
           exact cell_at_new w2.drew _ _ 0 _ rfl
    | 1 => obtain rfl : Value.int .i64 (-1) = u := by simpa using hj
           exact cell_at_new w2.drew _ _ 1 _ rfl
    | j + 2 => simp at hj
  have hone : ∀ u ∈ [Value.int .i64 (t : Int), Value.int .i64 (-1)], u.oneCell' = true := by simp [Value.oneCell']
  have hpl : (pairs (S.R[c])).length = (S.R[c]).length := by simp [pairs]
  have hb1 : (pairs (S.R[c])).length + 1 ≤ maxLen := by unfold maxLen; omega
  have hb2 : ((pairs (S.R[c])).length + 1) * 16 ≤ 140737488355328 := by omega
  have HW := Lib.hid hW
  have HRW := Lib.hid hRW
  have HBW := Lib.hid hbW
  have HFF := Lib.hid hF
  have HC0 := Lib.hid hc0
  have HU := Lib.hid hu
  have HK1 := Lib.hid hk1
  clear hW hRW hbW hF hc0 hk1 hk2 h2 hM2 hR2 hu hw2 d4 z4 hpl
  go_region_law ((refine step_push rfl (.tmp 47) (.tmp 50) 65 rfl 67 i0 (.agg #[.int .i64 0, .int .i64 0]) 2 16 Try.underlying65 hi hz0 hz1 hz2 rfl (by decide) (HRW.out _) rfl ⟨w2.heap.size, 0, none⟩ 1 [.int .i64 (t : Int), .int .i64 (-1)] rfl rfl HC0.out hone hb1 hb2 (HBW.out _) ?_; intro ob' A' n' c' w3 hR3 hgrow hob; obtain ⟨y1, y2, y3⟩ := HFF.out _ _ hgrow))
  all_goals
    have h0 := HW.out (Obj.cells #[Value.int IntKind.i64 ↑t, Value.int IntKind.i64 (-1)] 67 (0, 0))
    have hr : pairs (S.R[c]) ++ [[Value.int .i64 (t : Int), .int .i64 (-1)]] = pairs (S.R[c] ++ [((t : Int), (-1))]) := by simp [pairs]
    rw [hr] at hR3
    have h4 := h0.setU c hc2 HU.out hgrow hR3 (.inr (hob.imp id (fun ⟨k, e1, e2⟩ => ⟨k, e1, e2⟩)))
    have hobF : ∀ k, ob = some k → F k := fun k hk => HF5.out (ob, u0) hmem k hk
    have hmv : Moves F w (w3.setCell ⟨bR, c, none⟩ (.slice A' n' c')) :=
      (((HM2.out F f2).below ((Below.refl w.heap.size w2).drew.alloc (HM2.out F f2).size (Obj.cells #[Value.int IntKind.i64 ↑t, Value.int IntKind.i64 (-1)] 67 (0, 0)))).grown hgrow (fun k hk => .inl (hobF k hk))).store _ _ f4
    have hnx : Next w base g F (setR (setT S t 2) c (S.R[c] ++ [((t : Int), (-1 : Int))])) (w3.setCell ⟨bR, c, none⟩ (.slice A' n' c')) := HH.out.next hb h4 hmv ⟨f1, f2, f3, f4⟩ (fun x hx k hk => by
      rcases List.mem_append.1 hx with hx | hx
      · exact .inl (HF5.out x (List.mem_append.2 (.inl hx)) k hk)
      · rcases mem_set_or hx with hx | rfl
        · exact .inl (HF5.out x (List.mem_append.2 (.inr hx)) k hk)
        · rcases hob with e | ⟨k2, e, hk2⟩
          · exact .inl (hobF k (by rw [← e]; exact hk))
          · refine .inr ?_
            have : some k2 = some k := e.symm.trans hk
            cases this
            have := HM2.out F f2
            exact Nat.le_trans this.size (Nat.le_trans (Nat.le_succ _) (Nat.le_trans (Nat.le_of_eq (HK1.out _).symm) hk2)))
    have HNX := Lib.hid hnx
    clear h0 h4 hmv hnx hob hR3 hgrow hobF
    go_wp2_with fail
    go_ret
    refine ⟨rfl, ?_⟩
    have hwt : (Sc.rest S t c).1 = setR (setT S t 2) c (S.R[c] ++ [((t : Int), (-1 : Int))]) := by
      have hre : S.R.getD (c : Int).toNat [] = S.R[c] := by rw [Int.toNat_natCast, List.getD_eq_getElem?_getD, List.getElem?_eq_getElem hc1]; rfl
      unfold Sc.rest
      rw [if_pos HE.out, hre]
    rw [hwt]
    exact HNX.out
end Go.Proofs.Ytcfkmhmgappckaa

/- slices.Repeat of one free mutex. Condition: at most 1000. -/
namespace Go.Proofs.Ytcfkmhmgappckaa
open Go.RowKit Go.Proofs.Ytcfkmhmgappckaa.Sc Go.Proofs.Ytcfkmhmgappckaa.PAll Go.Proofs.YtcfkmhmgappckaaW.PrintWords Go.Proofs.YtcfkmhmgappckaaW.PrintLast Go.Proofs.YtcfkmhmgappckaaW.PrintMore

theorem run_copy_sz (w : World) (dT sT ty elem : TypeId) (i : TypeInfo) (g o dLen dCap : Nat) (a : Addr) (sLen sCap : Nat) (cur : Array Value) (t : TypeId) (cs : List Value)
    (hu : Try.prog.underlying dT = some (.slice elem)) (hq : Try.prog.info? elem = some i)
    (hg : w.heap[g]? = some (.cells cur t (0, 0))) (hn : cs.length = Nat.min sLen dLen * i.size)
    (hsrc : ∀ j v, cs[j]? = some v → w.cell? (a.add j) = some v) (hfit : o + cs.length ≤ cur.size) (h1 : ∀ v ∈ cs, v.oneCell' = true) :
    (Builtin.copy_ #[dT, sT] ty #[.slice (some ⟨g, o, none⟩) dLen dCap, .slice (some a) sLen sCap]).run Try.prog w =
      .ok (goInt (Nat.min sLen dLen)) (w.setRow g (cur.toList.take o ++ cs ++ cur.toList.drop (o + cs.length)).toArray) := by
  have hl := run_firstCells_some (P := Try.prog) w i.size (Nat.min sLen dLen) a sLen sCap cs hn hsrc
  have hst := run_storeCells_at Try.prog g o t cs 0 cur w hg (by simpa using hfit) h1
  simp [Builtin.copy_, run_underlying hu, Builtin.lenOf, sizeOf, typeInfo, hq, hl, hst]
theorem infoMu : (Try.prog.info? 55).map (fun i => (i.zero, i.size, i.bytes)) = some (some (.agg #[.int .i64 0, .slice none 0 0]), 2, 32) := by kernel_rfl
/-- So many free mutexes, then empty places. -/
def reps (N k : Nat) : List (List Value) := List.replicate k [.int .i64 (-1), .slice none 0 0] ++ List.replicate (N - k) [.int .i64 0, .slice none 0 0]
theorem reps_two (N k : Nat) : ∀ c ∈ reps N k, c.length = 2 := by
  intro c hc
  rcases List.mem_append.1 hc with h | h <;> rw [List.eq_of_mem_replicate h] <;> rfl
theorem flat_len2 : ∀ (l : List (List Value)), (∀ c ∈ l, c.length = 2) → l.flatten.length = 2 * l.length
  | [], _ => rfl
  | c :: l, h => by
    rw [List.flatten_cons, List.length_append, h c (by simp), flat_len2 l (fun d hd => h d (by simp [hd])), List.length_cons]; omega
theorem reps_len (N k : Nat) (h : k ≤ N) : (reps N k).flatten.length = 2 * N := by
  rw [flat_len2 _ (reps_two N k)]; simp [reps]; omega
theorem reps_made (N : Nat) : madeCells #[.int .i64 0, .slice none 0 0] (N * 2) = (reps N 0).flatten.toArray := by
  apply Array.ext'
  rw [List.toList_toArray]
  apply List.ext_getElem?
  intro j
  by_cases hj : j < N * 2
  · have hd : j = 2 * (j / 2) + j % 2 := by omega
    have h2 := flat2 (reps N 0) (reps_two N 0) (j / 2) (j % 2) (by omega)
    rw [← hd] at h2
    rw [h2]
    have h3 : (reps N 0)[j / 2]? = some [.int .i64 0, .slice none 0 0] := by
      unfold reps
      simp only [List.replicate_zero, List.nil_append, Nat.sub_zero, List.getElem?_replicate]
      rw [if_pos (by omega)]
    rw [h3]
    simp only [madeCells, Array.toList_map, List.getElem?_map, Array.toList_range, List.getElem?_range hj, Option.map_some, Option.bind_some]
    rcases Nat.mod_two_eq_zero_or_one j with e | e <;> simp [e]
  · have h4 : (reps N 0).flatten.length ≤ j := by rw [reps_len N 0 (by omega)]; omega
    rw [List.getElem?_eq_none h4, List.getElem?_eq_none (by simp [madeCells]; omega)]
/-- What is copied is as what stands there. -/
def frees (m : Nat) : List Value := (List.replicate m [Value.int .i64 (-1), .slice none 0 0]).flatten
theorem frees_len (m : Nat) : (frees m).length = 2 * m := by
  unfold frees
  rw [flat_len2 _ (fun c hc => by rw [List.eq_of_mem_replicate hc]; rfl)]; simp
theorem frees_add (a b : Nat) : frees a ++ frees b = frees (a + b) := by
  unfold frees
  rw [← List.flatten_append, List.replicate_append_replicate]
def zeros (m : Nat) : List Value := (List.replicate m [Value.int .i64 0, .slice none 0 0]).flatten
theorem zeros_len (m : Nat) : (zeros m).length = 2 * m := by
  unfold zeros
  rw [flat_len2 _ (fun c hc => by rw [List.eq_of_mem_replicate hc]; rfl)]; simp
theorem zeros_add (a b : Nat) : zeros a ++ zeros b = zeros (a + b) := by
  unfold zeros
  rw [← List.flatten_append, List.replicate_append_replicate]
theorem reps_flat (N k : Nat) : (reps N k).flatten = frees k ++ zeros (N - k) := by simp [reps, frees, zeros]
theorem reps_copy (N k m : Nat) (h : k + m ≤ N) : (reps N k).flatten.take (2 * k) ++ frees m ++ (reps N k).flatten.drop (2 * k + (frees m).length) = (reps N (k + m)).flatten := by
  rw [reps_flat, reps_flat, ← frees_add, frees_len]
  have h1 : zeros (N - k) = zeros m ++ zeros (N - (k + m)) := by rw [zeros_add]; congr 1; omega
  rw [List.take_append_of_le_length (by rw [frees_len]; omega), List.take_of_length_le (by rw [frees_len]; omega), List.drop_append, List.drop_of_length_le (by rw [frees_len]; omega), frees_len, h1,
    show 2 * k + 2 * m - 2 * k = 2 * m by omega, List.nil_append, List.drop_append, List.drop_of_length_le (by rw [zeros_len]; omega), zeros_len, Nat.sub_self, List.drop_zero, List.nil_append]
theorem frees_cells (m j : Nat) (v : Value) (h : (frees m)[j]? = some v) (l : List Value) : (frees m ++ l)[j]? = some v := by
  rw [List.getElem?_append_left (by exact (List.getElem?_eq_some_iff.1 h).1)]; exact h
theorem frees_one (m : Nat) : ∀ v ∈ frees m, v.oneCell' = true := by
  intro v hv
  obtain ⟨c, hc, hv⟩ := List.mem_flatten.1 hv
  rw [List.eq_of_mem_replicate hc] at hv
  rcases List.mem_cons.1 hv with rfl | hv
  · rfl
  · obtain rfl := by simpa using hv
    rfl
theorem run_copy_reps (w : World) (ty : TypeId) (g o dLen dCap : Nat) (a : Addr) (sLen sCap N k m : Nat) (hok : o = 2 * k) (hg : w.heap[g]? = some (.cells (reps N k).flatten.toArray 55 (0, 0))) (hm : Nat.min sLen dLen = m) (hkm : k + m ≤ N)
    (hsrc : ∀ j v, (frees m)[j]? = some v → w.cell? (a.add j) = some v) :
    (Builtin.copy_ #[52, 52] ty #[.slice (some ⟨g, o, none⟩) dLen dCap, .slice (some a) sLen sCap]).run Try.prog w = .ok (goInt m) (w.setRow g (reps N (k + m)).flatten.toArray) := by
  obtain ⟨i0, hi, hz0, hz1, hz2⟩ := info_parts infoMu
  have hc := run_copy_sz w 52 52 ty 55 i0 g o dLen dCap a sLen sCap _ _ (frees m) Try.underlying52 hi hg (by rw [frees_len, hm, hz1]; omega) hsrc (by rw [List.size_toArray, reps_len N k (by omega), frees_len]; omega) (frees_one m)
  rw [hm] at hc
  rw [hc, List.toList_toArray, hok, reps_copy N k m hkm]
theorem wpList_copy_reps {ops : Array Oper} {rest : List Oper} {o : Oper} {a : Act} {Q : Exit → Act → World → Prop} (w : World) (hgd : o.guard = none) (d s : Operand)
    (ho : o.op = .call { callee := .builtin .copy, args := #[d, s], argTypes := #[52, 52] })
    (g off dLen dCap : Nat) (ad : Addr) (sLen sCap N k m : Nat) (hd : a.eval d = .slice (some ⟨g, off, none⟩) dLen dCap) (hs : a.eval s = .slice (some ad) sLen sCap) (hok : off = 2 * k) (hg : w.heap[g]? = some (.cells (reps N k).flatten.toArray 55 (0, 0))) (hm : Nat.min sLen dLen = m) (hkm : k + m ≤ N)
    (hsrc : ∀ j v, (frees m)[j]? = some v → w.cell? (ad.add j) = some v) (B : Nat) (w0 : World) (hb : Below B w0 w) (hBg : B ≤ g)
    (h : ∀ w', Hid (w'.heap[g]? = some (.cells (reps N (k + m)).flatten.toArray 55 (0, 0))) → Below B w0 w' → wpList Try.prog ops Q rest (a.put o.dst (goInt m)) w') : wpList Try.prog ops Q (o :: rest) a w := by
  have hrun := run_copy_reps w o.type g off dLen dCap ad sLen sCap N k m hok hg hm hkm hsrc
  refine wpList_plain hgd fun K hK => ?_
  unfold Oper.wp
  simp [execOp, ho, resolve, invoke, builtin, hd, hs, hrun, Result.andThen]
  exact hK _ _ (h _ (show _ = _ from setRow_heap w g _ _ _ _ hg) (below_setRow hb hBg _))
theorem step_copy_reps {ops : Array Oper} {o : Oper} {a : Act} {w : World} {K : Act → World → Prop} {Q : Exit → Act → World → Prop} {E : Prop} (hgd : o.guard = none) (d s : Operand)
    (ho : o.op = .call { callee := .builtin .copy, args := #[d, s], argTypes := #[52, 52] })
    (g off dLen dCap : Nat) (ad : Addr) (sLen sCap N k m : Nat) (hd : a.eval d = .slice (some ⟨g, off, none⟩) dLen dCap) (hs : a.eval s = .slice (some ad) sLen sCap) (hok : off = 2 * k) (hg : w.heap[g]? = some (.cells (reps N k).flatten.toArray 55 (0, 0))) (hm : Nat.min sLen dLen = m) (hkm : k + m ≤ N)
    (hsrc : ∀ j v, (frees m)[j]? = some v → w.cell? (ad.add j) = some v) (B : Nat) (w0 : World) (hb : Below B w0 w) (hBg : B ≤ g)
    (h : ∀ w', Hid (w'.heap[g]? = some (.cells (reps N (k + m)).flatten.toArray 55 (0, 0))) → Below B w0 w' → K (a.put o.dst (goInt m)) w') :
    if Region.wanted o (yielded ops a.tmps) = true then Oper.wp Try.prog o a w K Q else E := by
  have hrun := run_copy_reps w o.type g off dLen dCap ad sLen sCap N k m hok hg hm hkm hsrc
  have hw : Region.wanted o (yielded ops a.tmps) = true := by simp [Region.wanted, hgd]
  rw [if_pos hw]
  unfold Oper.wp
  simp [execOp, ho, resolve, invoke, builtin, hd, hs, hrun, Result.andThen]
  exact h _ (show _ = _ from setRow_heap w g _ _ _ _ hg) (below_setRow hb hBg _)
theorem reps_src (w : World) (g N k m : Nat) (hm : m ≤ k) (h : w.heap[g]? = some (.cells (reps N k).flatten.toArray 55 (0, 0))) : ∀ j v, (frees m)[j]? = some v → w.cell? ((⟨g, 0, none⟩ : Addr).add j) = some v := by
  intro j v hv
  rw [Addr.add_lit, Nat.zero_add]
  unfold World.cell?
  simp only [h]
  have h1 : frees k = frees m ++ frees (k - m) := by rw [frees_add]; congr 1; omega
  have : (reps N k).flatten[j]? = some v := by
    rw [reps_flat, h1, List.append_assoc]
    exact frees_cells m j v hv _
  simpa using this
theorem mul_one (n : Nat) (h : n ≤ 1000) : bits_Mul.f 1 (n : Int) = some (0, (n : Int)) := by
  have hall : ∀ n : Fin 1001, bits_Mul.f 1 (n.val : Int) = some (0, (n.val : Int)) := by decide +kernel
  exact hall ⟨n, by omega⟩
end Go.Proofs.Ytcfkmhmgappckaa

/- slices.Repeat of one free mutex, walked. Condition: at most 1000. -/
namespace Go.Proofs.Ytcfkmhmgappckaa
open Go.RowKit Go.Proofs.Ytcfkmhmgappckaa.Sc Go.Proofs.Ytcfkmhmgappckaa.PAll Go.Proofs.YtcfkmhmgappckaaW.PrintWords Go.Proofs.YtcfkmhmgappckaaW.PrintLast Go.Proofs.YtcfkmhmgappckaaW.PrintMore

def wpHeap (w : World) (g N k : Nat) : Prop := w.heap[g]? = some (.cells (reps N k).flatten.toArray 55 (0, 0))
set_option maxHeartbeats 1000000 in
set_option maxRecDepth 100000 in
theorem repeat_any (w : World) (bx N : Nat) (hN : N ≤ 1000) (c0 : w.cell? ⟨bx, 0, none⟩ = some (.int .i64 (-1))) (c1 : w.cell? ⟨bx, 1, none⟩ = some (.slice none 0 0)) :
    Calls Try.prog 27 #[.slice (some ⟨bx, 0, none⟩) 1 1, .int .i64 (N : Int)] w fun e w' => ∃ g, e = .returned (.slice (some ⟨g, 0, none⟩) N N) ∧ w.heap.size ≤ g ∧ w'.heap[g]? = some (.cells (reps N N).flatten.toArray 55 (0, 0)) ∧ Below w.heap.size w w' := by
  obtain ⟨i0, hi, hz0, hz1, hz2⟩ := info_parts infoMu
  have hmk : ∀ w : World, (Instr.makeSlice 52 (.int .i64 (N : Int)) (.int .i64 (N : Int))).run Try.prog w = .ok (.slice (some ⟨w.heap.size, 0, none⟩) N N) (w.alloc (.cells (reps N 0).flatten.toArray 55 (0, 0))) := by
    intro w
    have := run_make (P := Try.prog) w 52 55 i0 _ Try.underlying52 hi hz0 .i64 .i64 (N : Int) (N : Int) (by omega) (Int.le_refl _) (by rw [hz2]; omega) (by omega)
    rw [hz1, Int.toNat_natCast] at this
    rw [this, ← reps_made]
    rfl
  have hmul := mul_one N hN
  have HM := Lib.hid (bits_Mul.calls 1 (N : Int) 0 (N : Int) w hmul)
  clear hmul
  go_enter Try.func27, Try.ntmps27
  go_wp2_with fail
  refine HM.out.mono ?_
  rintro e w1 ⟨rfl, hd1⟩
  have hb1 := hd1.below
  have hcell : ∀ a, w1.cell? a = w.cell? a := by obtain ⟨n, rfl⟩ := hd1.out; intro a; simp
  have c0' : w1.cell? ⟨bx, 0, none⟩ = some (.int .i64 (-1)) := by rw [hcell]; exact c0
  have c1' : w1.cell? ⟨bx, 1, none⟩ = some (.slice none 0 0) := by rw [hcell]; exact c1
  have q0 := (World.cell?_alloc_some w1 _ (Obj.cells (reps N 0).flatten.toArray 55 (0, 0)) (by rw [c0']; rfl)).trans c0'
  have q1 := (World.cell?_alloc_some w1 _ (Obj.cells (reps N 0).flatten.toArray 55 (0, 0)) (by rw [c1']; rfl)).trans c1'
  have hsrc : ∀ j v, (frees (min 1 N))[j]? = some v → (w1.alloc (Obj.cells (reps N 0).flatten.toArray 55 (0, 0))).cell? ((⟨bx, 0, none⟩ : Addr).add j) = some v := by
    intro j v hv
    rw [Addr.add_lit, Nat.zero_add]
    have hm1 : min 1 N = 0 ∨ min 1 N = 1 := by omega
    rcases hm1 with e | e
    · rw [e] at hv; simp [frees] at hv
    · rw [e] at hv
      match j with
      | 0 => obtain rfl : Value.int .i64 (-1) = v := by simpa [frees] using hv
             exact q0
      | 1 => obtain rfl : Value.slice none 0 0 = v := by simpa [frees] using hv
             exact q1
      | j + 2 => simp [frees] at hv
  have hbA : Below w.heap.size w (w1.alloc (Obj.cells (reps N 0).flatten.toArray 55 (0, 0))) := below_alloc hb1 _
  have hge : w.heap.size ≤ w1.heap.size := hb1.size
  have hg0 : (w1.alloc (Obj.cells (reps N 0).flatten.toArray 55 (0, 0))).heap[w1.heap.size]? = some (.cells (reps N 0).flatten.toArray 55 (0, 0)) := heap_alloc_new w1 _
  have HSRC := Lib.hid hsrc
  have HBA := Lib.hid hbA
  have HG0 := Lib.hid hg0
  clear hsrc hbA hg0 hb1 hd1 hcell q0 q1 HM
  go_wp2_with (with_reducible refine wpList_copy_reps _ rfl (.tmp 31) (.tmp 32) rfl w1.heap.size 0 N N ⟨bx, 0, none⟩ 1 1 N 0 (min 1 N) rfl rfl rfl HG0.out rfl (by omega) HSRC.out w.heap.size w HBA.out hge ?_)
  intro w2 hg2 hb2
  clear HSRC HBA HG0
  go_wp2_with fail
  obtain ⟨g, hgg⟩ : ∃ g, g = w1.heap.size := ⟨_, rfl⟩
  rw [← hgg] at hge hg2 ⊢
  clear hgg
  have HG2 : wpHeap w2 g N (min 1 N) := hg2.out
  clear hg2
  go_loopw [8] (fun v wr => ∃ k : Nat, v = .int .i64 (k : Int) ∧ k ≤ N ∧ (0 < N → 0 < k) ∧ wpHeap wr g N k ∧ Below w.heap.size w wr) (fun v _ => N - (intOf v).toNat)
  case atStart => exact ⟨min 1 N, rfl, by omega, by omega, HG2, hb2⟩
  case round =>
    obtain ⟨k, rfl, hk, hk0, hH, hbw⟩ := hrel
    clear HG2 hb2
    by_cases hlt : k < N
    · have i1 : ((k : Nat) : Int) < (N : Int) := by omega
      have i2 : ((k : Nat) : Int) ≤ (N : Int) := by omega
      have hk1 := hk0 (by omega)
      have hnk : ¬ N = k := by omega
      have hbd : Below w.heap.size w wr.drew := hbw.drew
      have hgd : wr.drew.heap[g]? = some (.cells (reps N k).flatten.toArray 55 (0, 0)) := hH
      have HS := Lib.hid (reps_src wr.drew g N k (min k (N - k)) (by omega) hgd)
      have HGD := Lib.hid hgd
      have HBD := Lib.hid hbd
      have hkm : k + min k (N - k) ≤ N := by omega
      have hwr : IntKind.i64.wrap ((k : Int) + ((min k (N - k) : Nat) : Int)) = ((k + min k (N - k) : Nat) : Int) := by rw [IntWalk.i64_in _ (by omega)]; omega
      have HWR := Lib.hid hwr
      clear hgd hbd hH hk0 hwr
      go_wp2_with fail
      go_region_law ((refine step_copy_reps rfl (.tmp 41) (.tmp 44) rfl g (k * 2) (N - k) (N - k) ⟨g, 0, none⟩ k N N k (min k (N - k)) (by go_simp) (by go_simp) (Nat.mul_comm _ _) HGD.out rfl hkm HS.out w.heap.size w HBD.out hge ?_; intro w3 hg3 hb3))
      all_goals
        have HG3 : wpHeap w3 g N (k + min k (N - k)) := hg3.out
        clear hg3 HS HGD HBD
        go_simp
        rw [HWR.out]
        go_roundw
        case rel => exact ⟨_, _, _, _, _, _, _, _, _, _, _, _, _, _, ⟨k + min k (N - k), rfl, by omega, by omega, HG3, hb3⟩, rfl⟩
        case measure => simp [intOf]; omega
    · obtain rfl : k = N := by omega
      go_wp2
      go_ret
      exact ⟨g, rfl, hge, hH, hbw⟩
end Go.Proofs.Ytcfkmhmgappckaa
