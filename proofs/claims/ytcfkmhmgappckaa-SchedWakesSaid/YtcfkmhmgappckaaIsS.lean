/- A schedule in memory: states, mutexes, rests, each in a block of its own. No condition. -/
import Derived.Test.YtcfkmhmgappckaaPAllx1
import Derived.Test.YtcfkmhmgappckaaShelf
import Derived.Test.YtcfkmhmgappckaaSchedP
namespace Go.Proofs.Ytcfkmhmgappckaa
open Go.RowKit Go.Proofs.Ytcfkmhmgappckaa.Sc Go.Proofs.Ytcfkmhmgappckaa.PAll Go.Proofs.YtcfkmhmgappckaaW.PrintWords Go.Proofs.YtcfkmhmgappckaaW.PrintLast Go.Proofs.YtcfkmhmgappckaaW.PrintMore

/-- A row of cells (elements of a type, each of so many cells) in a block of its own, or none. -/
def RowIn (w : World) (base : Nat) (t sz : Nat) (ob : Option Nat) (v : Value) (l : List (List Value)) : Prop :=
  (∀ c ∈ l, c.length = sz) ∧
  ((ob = none ∧ v = .slice none 0 0 ∧ l = []) ∨
   ∃ b off cap cs, ob = some b ∧ v = .slice (some ⟨b, off * sz, none⟩) l.length cap ∧ base ≤ b ∧ w.heap[b]? = some (.cells cs t (0, 0)) ∧ l.length ≤ cap ∧ (off + cap) * sz ≤ cs.size ∧ ∀ i, i < l.length * sz → cs[off * sz + i]? = l.flatten[i]?)
theorem RowIn.same {w w1 : World} {base t sz : Nat} {ob : Option Nat} {v : Value} {l : List (List Value)} (h : RowIn w base t sz ob v l) (hs : ∀ b, ob = some b → w1.heap[b]? = w.heap[b]?) : RowIn w1 base t sz ob v l := by
  refine ⟨h.1, ?_⟩
  rcases h.2 with h | ⟨b, off, cap, cs, e, hv, hb, hc, h1, h2, h3⟩
  · exact .inl h
  · exact .inr ⟨b, off, cap, cs, e, hv, hb, (hs b e).trans hc, h1, h2, h3⟩
def ints (l : List Int) : List (List Value) := l.map fun x => [.int .i64 x]
def pairs (l : List (Int × Int)) : List (List Value) := l.map fun x => [.int .i64 x.1, .int .i64 x.2]
/-- A schedule at block g. -/
structure IsS (w : World) (base g bT bM bR : Nat) (vs : List (Option Nat × Value)) (us : List (Option Nat × Value)) (S : Sd) : Prop where
  ge : base ≤ g
  cell : w.heap[g]? = some (.cells #[.slice (some ⟨bT, 0, none⟩) S.T.length S.T.length, .slice (some ⟨bM, 0, none⟩) S.M.length S.M.length, .slice (some ⟨bR, 0, none⟩) S.R.length S.R.length] 58 (0, 0))
  geT : base ≤ bT
  geM : base ≤ bM
  geR : base ≤ bR
  T : w.heap[bT]? = some (.cells (S.T.map (Value.int .i64)).toArray 3 (0, 0))
  lenV : vs.length = S.M.length
  M : w.heap[bM]? = some (.cells ((List.zipWith (fun (x : Int × List Int) (v : Option Nat × Value) => [Value.int .i64 x.1, v.2]) S.M vs).flatten).toArray 55 (0, 0))
  rows : ∀ (i : Nat) x v, S.M[i]? = some x → vs[i]? = some v → RowIn w base 3 1 v.1 v.2 (ints x.2)
  lenU : us.length = S.R.length
  R : w.heap[bR]? = some (.cells (us.map (·.2)).toArray 65 (0, 0))
  rests : ∀ (i : Nat) x u, S.R[i]? = some x → us[i]? = some u → RowIn w base 67 2 u.1 u.2 (pairs x)
  apart : ([some g, some bT, some bM, some bR] ++ (vs ++ us).map (·.1)).Pairwise (fun a b => a = none ∨ b = none ∨ a ≠ b)
end Go.Proofs.Ytcfkmhmgappckaa
