/- Dictionaries: what is read of one that stands in memory. No condition. -/
import Derived.Test.YtlghcfhmfbdidaaRows
import Derived.Test.YtlghcfhmfbdidaaShelf
import Derived.Test.YtlghcfhmfbdidaaLeq
import Derived.Test.YtlghcfhmfbdidaaPAllx0
import Derived.RangeFuncBox
import Derived.Deep.RegionHeld3
import Derived.Deep.RegionLaw
import Derived.WalkSpells
import Derived.WalkLawsBesides
namespace Go.Proofs.Ytlghcfhmfbdidaa
open Go.RowKit Go.Proofs.YtlghcfhmfbdidaaW.PrintWords Go.Proofs.YtlghcfhmfbdidaaW.PrintLast Go.Proofs.YtlghcfhmfbdidaaW.PrintMore

/-- A dictionary of names and things at block g. -/
def IsD (w : World) (g : Nat) (ns : List ByteArray) (vs : List Int) : Prop :=
  ∃ A0 c0 A1 c1, w.heap[g]? = some (.cells #[.slice A0 ns.length c0, .slice A1 vs.length c1] 58 (0, 0)) ∧ ns.length ≤ c0 ∧ vs.length ≤ c1 ∧ Kd.C Kd.string w A0 ns.length ns ∧ Kd.C (Kd.int .i64) w A1 vs.length vs
theorem IsD.below {w w' : World} {g : Nat} {ns : List ByteArray} {vs : List Int} (h : IsD w g ns vs) (hb : Below w.heap.size w w') : IsD w' g ns vs := by
  obtain ⟨A0, c0, A1, c1, hg, h0, h1, hn, hv⟩ := h
  exact ⟨A0, c0, A1, c1, (hb.block g (Array.getElem?_eq_some_iff.1 hg).1).trans hg, h0, h1, Kd.C_below hn hb, Kd.C_below hv hb⟩
/-- What a walk reads. -/
theorem IsD.open {w : World} {g : Nat} {ns : List ByteArray} {vs : List Int} (h : IsD w g ns vs) : ∃ A0 c0 A1 c1, w.cell? ⟨g, 0, none⟩ = some (.slice A0 ns.length c0) ∧ w.cell? ⟨g, 1, none⟩ = some (.slice A1 vs.length c1) ∧ ns.length ≤ c0 ∧ vs.length ≤ c1 ∧ Kd.C Kd.string w A0 ns.length ns ∧ Kd.C (Kd.int .i64) w A1 vs.length vs ∧ g < w.heap.size := by
  obtain ⟨A0, c0, A1, c1, hg, h0, h1, hn, hv⟩ := h
  exact ⟨A0, c0, A1, c1, by simp [World.cell?, hg], by simp [World.cell?, hg], h0, h1, hn, hv, (Array.getElem?_eq_some_iff.1 hg).1⟩
theorem IsD.new {w : World} {A0 A1 : Option Addr} {c0 c1 : Nat} {ns : List ByteArray} {vs : List Int} (h0 : ns.length ≤ c0) (h1 : vs.length ≤ c1) (hn : Kd.C Kd.string w A0 ns.length ns) (hv : Kd.C (Kd.int .i64) w A1 vs.length vs) :
    IsD (w.alloc (.cells #[.slice A0 ns.length c0, .slice A1 vs.length c1] 58)) w.heap.size ns vs :=
  ⟨A0, c0, A1, c1, World.alloc_heap_new w _, h0, h1, Kd.C_below hn (below_alloc (Below.refl _ _) _), Kd.C_below hv (below_alloc (Below.refl _ _) _)⟩

/-- The least number from 'from' up to 'n' that is so, by halving. -/
def leastM (f : Nat → Bool) : Nat → Nat → Nat → Nat
  | 0, a, _ => a
  | k + 1, a, b => if a < b then (if f (a + (b - a) / 2) then leastM f k a (a + (b - a) / 2) else leastM f k (a + (b - a) / 2 + 1) b) else a
theorem leastM_bound (f : Nat → Bool) : ∀ k a b, a ≤ b → a ≤ leastM f k a b ∧ leastM f k a b ≤ b
  | 0, a, b, h => ⟨Nat.le_refl _, h⟩
  | k + 1, a, b, h => by
    unfold leastM
    split
    · split
      · have := leastM_bound f k a (a + (b - a) / 2) (by omega); omega
      · have := leastM_bound f k (a + (b - a) / 2 + 1) b (by omega); omega
    · omega
/-- Where f turns from false to true once, at p: the answer is p. -/
theorem leastM_at (f : Nat → Bool) (p : Nat) : ∀ k a b, b - a < k → a ≤ p → p ≤ b → (∀ i, a ≤ i → i < b → f i = decide (p ≤ i)) → leastM f k a b = p
  | 0, a, b, hk, _, _, _ => by omega
  | k + 1, a, b, hk, h1, h2, hf => by
    unfold leastM
    split
    · rename_i hab
      rw [hf _ (by omega) (by omega)]
      by_cases hp : p ≤ a + (b - a) / 2
      · rw [decide_eq_true hp, if_pos rfl]
        exact leastM_at f p k _ _ (by omega) h1 hp (fun i x y => hf i x (by omega))
      · rw [decide_eq_false hp, if_neg (by simp)]
        exact leastM_at f p k _ _ (by omega) (by omega) h2 (fun i x y => hf i (by omega) y)
    · omega
end Go.Proofs.Ytlghcfhmfbdidaa
