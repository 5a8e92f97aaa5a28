/- A mutex is given up; what may not be. No condition but on size. -/
import Derived.Test.YtcfkmhmgappckaaGiveC
namespace Go.Proofs.Ytcfkmhmgappckaa
open Go.RowKit Go.Proofs.Ytcfkmhmgappckaa.Sc Go.Proofs.Ytcfkmhmgappckaa.PAll Go.Proofs.YtcfkmhmgappckaaW.PrintWords Go.Proofs.YtcfkmhmgappckaaW.PrintLast Go.Proofs.YtcfkmhmgappckaaW.PrintMore

section
variable {w w1 w2 : World} {base g : Nat} {F : Nat → Prop} {S S1 S2 : Sd}
theorem Sch.below (h : Sch w base g F S) (hb : Below w.heap.size w w1) : Sch w1 base g F S := by
  obtain ⟨h0, bT, bM, bR, vs, us, h1, h2⟩ := h
  exact ⟨fun k hk => ⟨(h0 k hk).1, Nat.lt_of_lt_of_le (h0 k hk).2 hb.size⟩, bT, bM, bR, vs, us, h1.below hb, h2⟩
theorem Sch.mono {F' : Nat → Prop} (h : Sch w base g F S) (hF : ∀ k, F k → F' k) (hb : ∀ k, F' k → base ≤ k ∧ k < w.heap.size) : Sch w base g F' S := by
  obtain ⟨h0, bT, bM, bR, vs, us, h1, a, b, c, d, e⟩ := h
  exact ⟨hb, bT, bM, bR, vs, us, h1, hF _ a, hF _ b, hF _ c, hF _ d, fun x hx k hk => hF _ (e x hx k hk)⟩
theorem Next.pre (hb : Below w.heap.size w w1) (h0 : ∀ k, F k → base ≤ k ∧ k < w.heap.size) (hbase : base ≤ w.heap.size) (h : Next w1 base g F S w2) : Next w base g F S w2 :=
  ⟨h.1.mono (fun k hk => hk.imp id (fun e => ⟨Nat.le_trans hb.size e.1, e.2⟩)) (fun k hk => hk.elim (fun e => ⟨(h0 k e).1, Nat.lt_of_lt_of_le (h0 k e).2 (Nat.le_trans hb.size h.2.size)⟩) (fun e => ⟨Nat.le_trans hbase e.1, e.2⟩)), ((Moves.refl F w).below hb).trans' h.2⟩
theorem Next.of_below (h : Sch w base g F S) (hbase : base ≤ w.heap.size) (hb : Below w.heap.size w w1) : Next w base g F S w1 :=
  ⟨(h.below hb).mono (fun _ hk => .inl hk) (fun k hk => hk.elim (fun e => ⟨(h.1 k e).1, Nat.lt_of_lt_of_le (h.1 k e).2 hb.size⟩) (fun e => ⟨Nat.le_trans hbase e.1, e.2⟩)), (Moves.refl F w).below hb⟩
theorem Next.trans (h : Next w base g F S1 w1) (hk : Next w1 base g (Plus F w w1) S2 w2) : Next w base g F S2 w2 :=
  ⟨hk.1.mono (fun k q => by
      rcases q with (q | q) | q
      · exact .inl q
      · exact .inr ⟨q.1, Nat.lt_of_lt_of_le q.2 hk.2.size⟩
      · exact .inr ⟨Nat.le_trans h.2.size q.1, q.2⟩) (fun k q => by
      have := hk.1.1
      rcases q with q | q
      · exact this k (.inl (.inl q))
      · rcases Nat.lt_or_ge k w1.heap.size with h3 | h3
        · exact this k (.inl (.inr ⟨q.1, h3⟩))
        · exact this k (.inr ⟨h3, q.2⟩)), h.2.trans hk.2⟩
/-- Something else that lies apart lies as it lay. -/
theorem Sch.apart {G : Nat → Prop} {g2 : Nat} (h : Sch w base g2 G S) (hm : Moves F w w1) (hd : ∀ k, G k → ¬ F k) : Sch w1 base g2 G S := by
  obtain ⟨h0, bT, bM, bR, vs, us, h1, a, b, c, d, e⟩ := h
  have hk : ∀ k, G k → w1.heap[k]? = w.heap[k]? := fun k hk => hm.block k (h0 k hk).2 (hd k hk)
  refine ⟨fun k hk => ⟨(h0 k hk).1, Nat.lt_of_lt_of_le (h0 k hk).2 hm.size⟩, bT, bM, bR, vs, us, ?_, a, b, c, d, e⟩
  have hr : ∀ {t sz : Nat} {v : Option Nat × Value} {l : List (List Value)}, v ∈ vs ++ us → RowIn w base t sz v.1 v.2 l → RowIn w1 base t sz v.1 v.2 l := fun hv hR => hR.same (fun k hb => hk k (e _ hv k hb))
  exact ⟨h1.ge, (hk _ a).trans h1.cell, h1.geT, h1.geM, h1.geR, (hk _ b).trans h1.T, h1.lenV, (hk _ c).trans h1.M, fun i x v p q => hr (List.mem_append.2 (.inl (List.mem_of_getElem? q))) (h1.rows i x v p q), h1.lenU, (hk _ d).trans h1.R, fun i x u p q => hr (List.mem_append.2 (.inr (List.mem_of_getElem? q))) (h1.rests i x u p q), h1.apart⟩
end
theorem give_any {w : World} {base g : Nat} {F : Nat → Prop} {S : Sd} (h : Sch w base g F S) (hb : base ≤ w.heap.size) (m : Int) (hm : there S.M m = true) (ht : ∀ t r, (mu S m).2 = t :: r → there S.T t = true) :
    Calls Try.prog 32 #[.pointer (some ⟨g, 0, none⟩), .int .i64 m] w fun e w' => e = .returned (.tuple #[]) ∧ Next w base g F (give S m) w' := by
  have hm1 := (there_iff _ _).1 hm
  obtain ⟨m, rfl⟩ := Int.eq_ofNat_of_zero_le hm1.1
  have hm2 : m < S.M.length := by omega
  have hmu : mu S (m : Int) = S.M[m] := by
    unfold mu; rw [Int.toNat_natCast, List.getD_eq_getElem?_getD, List.getElem?_eq_getElem hm2]; rfl
  obtain ⟨hF0, bT, bM, bR, vs, us, hS, f1, f2, f3, f4, f5⟩ := id h
  cases hr : (mu S (m : Int)).2 with
  | nil =>
    have e : give S m = setM S m (-1, []) := by unfold give; rw [hr]
    rw [e]
    refine (give_nil hS m hm2 (by rw [← hmu]; exact hr)).mono ?_
    rintro e w' ⟨rfl, h1, h2⟩
    exact ⟨rfl, h.next hb h1 (h2 F f3) ⟨f1, f2, f3, f4⟩ (fun x hx k hk => .inl (f5 x hx k hk))⟩
  | cons t r =>
    have ht1 := (there_iff _ _).1 (ht t r hr)
    obtain ⟨t, rfl⟩ := Int.eq_ofNat_of_zero_le ht1.1
    rw [give_set S m t r hm hr]
    refine (give_cons hS m t r hm2 (by rw [← hmu]; exact hr) (by omega)).mono ?_
    rintro e w' ⟨rfl, ob, ob', v', v0, hv, rfl, h1, h2⟩
    have hobF : ∀ k, ob' = some k → F k := fun k hk => f5 (ob', v0) (List.mem_append.2 (.inl (List.mem_of_getElem? hv))) k hk
    refine ⟨rfl, h.next hb h1 (h2 F ⟨f3, f2⟩) ⟨f1, f2, f3, f4⟩ (fun x hx k hk => ?_)⟩
    rcases List.mem_append.1 hx with hx | hx
    · rcases mem_set_or hx with hx | rfl
      · exact .inl (f5 x (List.mem_append.2 (.inl hx)) k hk)
      · exact .inl (hobF k hk)
    · exact .inl (f5 x (List.mem_append.2 (.inr hx)) k hk)
theorem Ok.giveT {S : Sd} {more : List Int} (h : Ok S more) (m : Int) (hm : there S.M m = true) (t : Int) (r : List Int) (hr : (mu S m).2 = t :: r) : there S.T t = true := by
  have h1 := rows_setM S m (-1, []) hm t
  have h2 := h.row t
  rw [hr, List.count_cons_self] at h1
  by_cases e : stT S t = 1
  · exact stT_there S t (by omega)
  · rw [if_neg e] at h2; simp at h1; omega

theorem contains_false (a b : Bool) : slices_Contains_bool_bool.f 4 [a, b] false = some (!(a && b)) := by
  cases a <;> cases b <;> decide +kernel
theorem contains_one (a : Bool) : slices_Contains_bool_bool.f 4 [a] false = some (!a) := by
  cases a <;> decide +kernel
theorem first_two (w : World) (b : Nat) (x y z : Bool) (h1 : w.cell? ⟨b, 0, none⟩ = some (.bool y)) (h2 : w.cell? ⟨b, 1, none⟩ = some (.bool z)) :
    Calls Try.prog 28 #[.bool x, .slice (some ⟨b, 0, none⟩) 2 2] w fun e w' => e = .returned (.int .i64 (first x (y && z))) ∧ Below w.heap.size w w' := by
  have hC : Kd.C Kd.bool w (some ⟨b, 0, none⟩) 2 [y, z] := by
    refine ⟨rfl, by omega, fun _ => ⟨_, rfl, fun j p hj => ⟨[.bool p], rfl, rfl, fun i u hu => ?_⟩⟩⟩
    cases i with
    | succ i => simp at hu
    | zero =>
      obtain rfl : Value.bool p = u := by simpa using hu
      match j, hj with
      | 0, hj => obtain rfl : y = p := by simpa using hj
                 exact h1
      | 1, hj => obtain rfl : z = p := by simpa using hj
                 exact h2
  refine (sched_first.calls 4 x _ 2 [y, z] (first x (y && z)) w hC (by simp) ?_).mono (fun e w' ⟨h, hd⟩ => ⟨h, hd.below⟩)
  unfold sched_first.f
  rw [contains_false]
  cases x <;> cases y <;> cases z <;> rfl
theorem first_one (w : World) (b : Nat) (x y : Bool) (h1 : w.cell? ⟨b, 0, none⟩ = some (.bool y)) :
    Calls Try.prog 28 #[.bool x, .slice (some ⟨b, 0, none⟩) 1 1] w fun e w' => e = .returned (.int .i64 (first x y)) ∧ Below w.heap.size w w' := by
  have hC : Kd.C Kd.bool w (some ⟨b, 0, none⟩) 1 [y] := by
    refine ⟨rfl, by omega, fun _ => ⟨_, rfl, fun j p hj => ⟨[.bool p], rfl, rfl, fun i u hu => ?_⟩⟩⟩
    cases i with
    | succ i => simp at hu
    | zero =>
      obtain rfl : Value.bool p = u := by simpa using hu
      match j, hj with
      | 0, hj => obtain rfl : y = p := by simpa using hj
                 exact h1
  refine (sched_first.calls 4 x _ 1 [y] (first x y) w hC (by simp) ?_).mono (fun e w' ⟨h, hd⟩ => ⟨h, hd.below⟩)
  unfold sched_first.f
  rw [contains_one]
  cases x <;> cases y <;> rfl
end Go.Proofs.Ytcfkmhmgappckaa
