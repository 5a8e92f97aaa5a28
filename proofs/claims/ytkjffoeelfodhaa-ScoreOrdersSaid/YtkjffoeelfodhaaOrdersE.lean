/- ScoreOrders: three ranks that are handed in; the printed function answers true. No condition. -/
import Derived.Test.YtkjffoeelfodhaaScoreE
import Derived.Test.YtkjffoeelfodhaaPAllx9
import Derived.ProofKit
import Derived.OpenShut
namespace Go.Proofs.Ytkjffoeelfodhaa
open Go.RowKit Go.ChangeShapes Go.WideShapes Go.ChangeAt Go.Deep Go.Proofs.Ytkjffoeelfodhaa.Sc Go.Proofs.Ytkjffoeelfodhaa.PAll Go.Proofs.YtkjffoeelfodhaaW.PrintWords Go.Proofs.YtkjffoeelfodhaaW.PrintLast

theorem open_rank {H : Type} {enc : TypeId × Value → H} {w : World} {base b0 : Nat} {held : Bool} {r : Reach} {v : Value} {d : DataW H} {ps : List MemPlace}
    (hval : Value.okWide Try.prog w r b0 23 v) (hd : DataW.Trod enc Try.prog w base (fun _ => true) held 23 v d ps) : ∃ y : Rk, v = .agg #[.int .i64 y.1, .int .i64 y.2.1, .int .i64 y.2.2] := by
  obtain ⟨cs, rfl, hcs⟩ := okWide_struct Try.underlying23 hval
  have ce : Try.prog.cellsOf 23 = 3 := by kernel_rfl
  rw [ce] at hcs
  obtain ⟨fuel, hf⟩ := hd
  obtain ⟨xs, k, hk, hxy, _, hxl, hfl⟩ := DataW.trod_struct Try.underlying23 hf
  obtain ⟨l, rfl⟩ : ∃ l : List Value, cs = l.toArray := ⟨cs.toList, by simp⟩
  match xs, hxl, l, hcs with
  | [y0, y1, y2], _, [v0, v1, v2], _ =>
    have g0 := hfl 0 _ rfl
    have g1 := hfl 1 _ rfl
    have g2 := hfl 2 _ rfl
    have c3 : Try.prog.cellsOf 3 = 1 := by kernel_rfl
    simp [c3, Value.cells] at g0 g1 g2
    obtain ⟨z0, q0, -, -⟩ := DataW.trod_int Try.underlying3 g0
    obtain ⟨z1, q1, -, -⟩ := DataW.trod_int Try.underlying3 g1
    obtain ⟨z2, q2, -, -⟩ := DataW.trod_int Try.underlying3 g2
    have q0' : v0 = .int .i64 z0 := by simpa using q0
    have q1' : v1 = .int .i64 z1 := by simpa using q1
    have q2' : v2 = .int .i64 z2 := by simpa using q2
    subst q0' q1' q2'
    exact ⟨(z0, z1, z2), rfl⟩
theorem better_ref_o (a b : Rk) : concordanceref14_Better.f a.1 a.2.1 a.2.2 b.1 b.2.1 b.2.2 = some (bet a b) := by
  unfold concordanceref14_Better.f bet
  by_cases h1 : a.2.1 = b.2.1
  · by_cases h2 : a.2.2 = b.2.2
    · simp [h1, h2]
    · simp [h1, h2]
  · simp [h1]
theorem ne_bet (a b : Rk) : (!(a.1 == b.1) || (!(a.2.1 == b.2.1) || (!(a.2.2 == b.2.2)))) = (bet a b || bet b a) := by
  by_cases e : a = b
  · subst e; simp [bet_irrefl]
  · have h : (bet a b || bet b a) = true := by
      cases h1 : bet a b <;> cases h2 : bet b a <;> first | rfl | exact absurd (bet_total h1 h2) e
    rw [h]
    cases hx : (!(a.1 == b.1) || (!(a.2.1 == b.2.1) || (!(a.2.2 == b.2.2))))
    · exfalso
      simp at hx
      obtain ⟨x, y, z⟩ := a
      obtain ⟨x', y', z'⟩ := b
      obtain ⟨p, q, r⟩ := hx
      simp only at p q r
      exact e (by rw [p, q, r])
    · rfl
theorem orders_ev (a b c : Rk) : Ev (fun n => concordancelaw14_ScoreOrders.f n a.1 a.2.1 a.2.2 b.1 b.2.1 b.2.2 c.1 c.2.1 c.2.2) true := by
  unfold concordancelaw14_ScoreOrders.f
  refine Ev.bind (few_ev _) ?_
  rw [show fewL [(⟨a.1, a.2.1, a.2.2⟩ : S23), (⟨b.1, b.2.1, b.2.2⟩ : S23), (⟨c.1, c.2.1, c.2.2⟩ : S23)] = [(⟨a.1, a.2.1, a.2.2⟩ : S28), (⟨b.1, b.2.1, b.2.2⟩ : S28), (⟨c.1, c.2.1, c.2.2⟩ : S28)] from rfl]
  refine Ev.pos (by simp) (Ev.pos (by simp) (Ev.const (a := bet a b) rfl (Ev.const (a := bet b a) rfl (Ev.pos (by simp) (Ev.const (a := bet b c) rfl (Ev.const (a := bet a c) rfl (Ev.const (better_ref_o a b) (Ev.pos (by simp) ?_))))))))
  by_cases hab : bet a b = true
  · refine Ev.pos hab (Ev.pos (by rw [ne_bet, hab]; rfl) (Ev.neg (by rw [bet_asymm hab]; decide) ?_))
    by_cases hbc : bet b c = true
    · exact Ev.pos hbc (Ev.pos (bet_trans hab hbc) (Ev.const lives_f (Ev.ret rfl)))
    · exact Ev.neg hbc (Ev.const lives_f (Ev.ret rfl))
  · refine Ev.neg hab (Ev.pos ?_ (Ev.const lives_f (Ev.ret rfl)))
    rw [ne_bet, show bet a b = false by simpa using hab, Bool.false_or]
    simp
theorem scoreOrders_walk (a b c : Rk) (w : World) :
    Calls Try.prog 3 #[.agg #[.int .i64 a.1, .int .i64 a.2.1, .int .i64 a.2.2], .agg #[.int .i64 b.1, .int .i64 b.2.1, .int .i64 b.2.2], .agg #[.int .i64 c.1, .int .i64 c.2.1, .int .i64 c.2.2]] w fun e w' => e = .returned (.bool true) ∧ Below w.heap.size w w' := by
  obtain ⟨n, hn⟩ := (orders_ev a b c).rounds
  exact concordancelaw14_ScoreOrders.calls n a.1 a.2.1 a.2.2 b.1 b.2.1 b.2.2 c.1 c.2.1 c.2.2 true w rfl hn
end Go.Proofs.Ytkjffoeelfodhaa
