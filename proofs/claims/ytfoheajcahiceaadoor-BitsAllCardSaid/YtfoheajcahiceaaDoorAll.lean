/- Sets of numbers as bits: All, and its iterator. Condition: the library's table is as its initialiser lays it. -/
import Derived.Test.YtfoheajcahiceaaDoorMade
import Derived.RangeFuncNested
import Derived.RangeFuncBound
import Derived.RangeFuncLeaves
import Derived.RangeFuncWrites
import Derived.Shelf.Abstract
import Derived.Shelf.RegionOpen
import Derived.Stop.RegionWithIn
import Derived.WalkKit
import Derived.OwnWalkIn
import Derived.TacticsInMore
import Derived.LoopNIn
import Derived.LoopIn
import Derived.Maps.AppendAt
import Derived.Test.YtfoheajcahiceaaDoorRanksW
namespace Go.Proofs.YtfoheajcahiceaaDoor
open Go.RowKit Go.Shelf Go.Proofs.YtfoheajcahiceaaDoor.PAll Go.Proofs.YtfoheajcahiceaaDoorW.PrintWords Go.Proofs.YtfoheajcahiceaaDoorW.PrintLast Go.Proofs.YtfoheajcahiceaaDoorW.PrintMore
attribute [local go_sem] Oper.semAt_some

theorem insN_gap (r : List Bool) (a : Nat) : ∀ b, a ≤ b → (∀ l, a ≤ l → l < b → bit r l = false) → insN r b = insN r a
  | 0, h, _ => by rw [show a = 0 by omega]
  | b + 1, h, hg => by
    by_cases hab : a = b + 1
    · rw [hab]
    · show (if bit r b then insN r b ++ [(b : Int)] else insN r b) = _
      rw [hg b (by omega) (by omega), if_neg (by simp), insN_gap r a b (by omega) (fun l h1 h2 => hg l h1 (by omega))]
theorem insN_succ (r : List Bool) (p : Nat) (h : bit r p = true) : insN r (p + 1) = insN r p ++ [(p : Int)] := by
  show (if bit r p then insN r p ++ [(p : Int)] else insN r p) = _
  rw [h, if_pos rfl]
theorem cnt_mono (r : List Bool) (a : Nat) : ∀ b, a ≤ b → cnt r a ≤ cnt r b
  | 0, h => by rw [show a = 0 by omega]; exact Nat.le_refl _
  | b + 1, h => by
    by_cases hab : a = b + 1
    · rw [hab]; exact Nat.le_refl _
    · have := cnt_mono r a b (by omega)
      show _ ≤ cnt r b + (bit r b).toNat
      omega

theorem all_in (n g : Nat) (w : World) :
    CallsIn Fence.wide n Tryd.prog 23 #[.pointer (some ⟨g, 0, none⟩)] w fun e w' =>
      e = .returned (.func (.func 40) #[] #[.pointer (some ⟨w.heap.size, 0, none⟩)]) ∧ w' = w.alloc (.cells #[.pointer (some ⟨g, 0, none⟩)] 23) := by
  refine callsIn_of_wp Tryd.func23 rfl trivial ?_ rfl
  simp only [Tryd.ntmps23, List.size_toArray, List.length_cons, List.length_nil, Nat.reduceAdd, Nat.reduceSub, Array.replicate_succ, Array.replicate_zero, List.push_toArray, List.append_toArray, List.nil_append, List.cons_append]
  gi_wp2
  go_ret
  exact ⟨rfl, rfl⟩

/-- What the body of a round must keep: the blocks of S. -/
def Kp (S : Nat → Prop) (W W' : World) : Prop := ∀ k, S k → W'.heap[k]? = W.heap[k]?
theorem Kp.trans {S : Nat → Prop} {A B C : World} (h : Kp S A B) (k : Kp S B C) : Kp S A C := fun j hj => (k j hj).trans (h j hj)
theorem Kp.of_below {S : Nat → Prop} {n : Nat} {A B : World} (h : Below n A B) (hS : ∀ k, S k → k < n) : Kp S A B := fun k hk => h.block k (hS k hk)
theorem Kp.lt {S : Nat → Prop} {A B : World} (h : Kp S A B) {k : Nat} (hS : S k) (hl : k < A.heap.size) : k < B.heap.size := by
  have := h k hS
  rw [Array.getElem?_eq_getElem hl] at this
  exact (Array.getElem?_eq_some_iff.1 this).1
def encI (x : Int) : Array Value := #[.int .i64 x]
theorem yield_bool {e : Ending} {A B : Prop} (h : (e = .returned (.bool true) ∧ A) ∨ (e = .returned (.bool false) ∧ B)) : ∃ b, e = .returned (.bool b) ∧ (b = true → A) ∧ (b = false → B) := by
  rcases h with ⟨rfl, h⟩ | ⟨rfl, h⟩
  · exact ⟨true, rfl, fun _ => h, fun h2 => by cases h2⟩
  · exact ⟨false, rfl, fun h2 => (by cases h2), fun _ => h⟩

set_option maxRecDepth 100000 in
set_option maxHeartbeats 8000000 in
theorem all1_in (n : Nat) (l Bs base g : Nat) (v : Value) (S : Nat → Prop) (r : List Bool) (hl : r.length ≤ 100000) (J Jx : List Int → World → Prop) (W : World)
    (hJa : AbidesFrom W.heap.size J)
    (hY : ∀ pre x W1, J pre W1 → pre.length < cnt r r.length → YieldAt Fence.wide (n - 1) Tryd.prog l (encI x) W1 fun e W' =>
      (e = .returned (.bool true) ∧ J (pre ++ [x]) W' ∧ Kp S W1 W') ∨ (e = .returned (.bool false) ∧ Jx (pre ++ [x]) W'))
    (h0 : J [] W) (hSs : S Bs) (hSl : ∀ k, S k → k < W.heap.size)
    (hbs : W.cell? ⟨Bs, 0, none⟩ = some (.pointer (some ⟨g, 0, none⟩))) (hD : ∀ W', Kp S W W' → IsSet W' base g v r ∧ Tab W') :
    CallsIn Fence.wide n Tryd.prog 40 #[.func (.yield l) #[] #[], .pointer (some ⟨Bs, 0, none⟩)] W fun e W' =>
      (∃ v, e = .returned v) ∧ ((J (insN r r.length) W') ∨ (∃ p, p < r.length ∧ bit r p = true ∧ Jx (insN r (p + 1)) W')) := by
  refine callsIn_of_wp Tryd.func40 rfl trivial ?_ rfl
  simp only [Tryd.ntmps40, List.size_toArray, List.length_cons, List.length_nil, Nat.reduceAdd, Nat.reduceSub, Array.replicate_succ, Array.replicate_zero, List.push_toArray, List.append_toArray, List.nil_append, List.cons_append]
  obtain ⟨hS0, hT0⟩ := hD W (fun _ _ => rfl)
  gi_wp2_with fail
  have hdep : Fence.wide.depth.isSome = true → 1 ≤ n := fun h => absurd h (by decide)
  refine ⟨trivial, hdep, (callsIn_wide.2 (next_any base g v r 0 W hS0 hT0 hl)).mono ?_⟩
  rintro e w1 ⟨rfl, hb1⟩
  have hJ1 : J [] w1 := hJa _ W _ none h0 (grown_of_below hb1 none) (fun r e => by cases e)
  have hK1 : Kp S W w1 := Kp.of_below hb1 hSl
  have e5 : nextI r 0 = nextI r ((0 : Nat) : Int) := rfl
  rw [e5]
  clear e5 h0 hS0 hT0
  gi_wp2_with fail
  gi_loopw [3] (fun vk wr => ∃ j : Nat, vk = .int .i64 (nextI r (j : Int)) ∧ J (insN r (min j r.length)) wr ∧ Kp S W wr) (fun vk _ => if 0 ≤ intOf vk then r.length + 1 - (intOf vk).toNat else 0)
  case atStart => exact ⟨0, rfl, by rw [Nat.zero_min]; exact hJ1, hK1⟩
  case round =>
    clear hJ1 hK1 hb1
    obtain ⟨j, rfl, hJ, hk⟩ := hrel
    obtain ⟨hS, hT⟩ := hD wr hk
    have hbs1 : wr.cell? ⟨Bs, 0, none⟩ = some (.pointer (some ⟨g, 0, none⟩)) := (World.cell?_of_block (hk Bs hSs)).trans hbs
    rcases next_cases r (j : Int) with ⟨hn, hg⟩ | ⟨p, hn, hjp, hp, hbp, hg⟩
    · have hi : insN r (min j r.length) = insN r r.length := by
        by_cases hj : j ≤ r.length
        · rw [show min j r.length = j by omega]
          exact (insN_gap r j r.length hj (fun l h1 _ => hg l (by omega))).symm
        · rw [show min j r.length = r.length by omega]
      rw [hi] at hJ
      rw [hn]
      have hn1 : ¬ (0 : Int) ≤ -1 := by decide
      clear hn hg hi
      gi_wp2_with fail
      refine ⟨(fun f h => by cases h), ?_⟩
      gi_wp2_with fail
      go_end0
      exact ⟨⟨_, rfl⟩, .inl hJ⟩
    · rw [Int.toNat_natCast] at hjp hg
      have hi : insN r (min j r.length) = insN r p := by rw [show min j r.length = j by omega]; exact (insN_gap r j p hjp hg).symm
      rw [hi] at hJ
      rw [hn]
      have hlt : (insN r p).length < cnt r r.length := by
        rw [insN_len]
        have h1 := cnt_mono r (p + 1) r.length (by omega)
        have h2 : cnt r (p + 1) = cnt r p + 1 := by show cnt r p + (bit r p).toNat = _; rw [hbp]; rfl
        omega
      have hp2 : p ≤ 100000 := by omega
      obtain ⟨fn, tmps, assign, body, hy, hR⟩ := hY (insN r p) (p : Int) wr hJ hlt
      dsimp only [encI] at hy
      have HR := Lib.hid hR
      clear hR hn hg hi
      gi_wp2_with fail
      refine ⟨hdep, RoundIn.mono HR.out ?_⟩
      rintro e W3 hor
      obtain ⟨b, rfl, hb1, hb2⟩ := yield_bool hor
      clear hor
      cases b with
      | true =>
        obtain ⟨hJ3, hk3⟩ := hb1 rfl
        have hk4 := hk.trans hk3
        obtain ⟨hS4, hT4⟩ := hD W3 hk4
        have hbs4 : W3.cell? ⟨Bs, 0, none⟩ = some (.pointer (some ⟨g, 0, none⟩)) := (World.cell?_of_block (hk4 Bs hSs)).trans hbs
        gi_wp2_with fail
        refine ⟨trivial, hdep, (callsIn_wide.2 (next_any base g v r _ W3 hS4 hT4 hl)).mono ?_⟩
        rintro e w5 ⟨rfl, hb5⟩
        have hJ5 : J (insN r (p + 1)) w5 := by rw [insN_succ r p hbp]; exact hJa _ W3 _ none hJ3 (grown_of_below hb5 none) (fun r e => by cases e)
        have hk5 := hk4.trans (fun k hS => hb5.block k (hk4.lt hS (hSl k hS)))
        gi_wp2_with fail
        go_roundw
        case rel => exact ⟨p + 1, rfl, by rw [show min (p + 1) r.length = p + 1 by omega]; exact hJ5, hk5⟩
        case measure =>
          rcases next_cases r ((p + 1 : Nat) : Int) with ⟨hn, _⟩ | ⟨q, hn, hpq, _⟩
          · have hn' : nextI r ((p : Int) + 1) = -1 := hn
            simp [intOf, hn']; omega
          · have hn' : nextI r ((p : Int) + 1) = (q : Int) := hn
            simp [intOf, hn']; omega
      | false =>
        have hx3 := hb2 rfl
        gi_wp2_with fail
        go_end0
        exact ⟨⟨_, rfl⟩, .inr ⟨p, hp, hbp, by rw [insN_succ r p hbp]; exact hx3⟩⟩
/-- The iterator's contract, for a loop over it. -/
theorem all_seq (n Bs base g : Nat) (v : Value) (S : Nat → Prop) (r : List Bool) (hl : r.length ≤ 100000) (w0 : World) (hSs : S Bs) (hSl : ∀ k, S k → k < w0.heap.size)
    (hbs : w0.cell? ⟨Bs, 0, none⟩ = some (.pointer (some ⟨g, 0, none⟩))) (hD : ∀ W', Kp S w0 W' → IsSet W' base g v r ∧ Tab W') :
    SeqStopsK Fence.wide n Tryd.prog 40 #[.pointer (some ⟨Bs, 0, none⟩)] encI (Kp S) (fun xs => xs = insN r r.length) (fun pre => ∃ p, p < r.length ∧ bit r p = true ∧ pre = insN r (p + 1)) (cnt r r.length) w0 := by
  intro l J Jx W hW hJa _ hY h0
  have hK := Kp.of_below hW hSl
  refine (all1_in n l Bs base g v S r hl J Jx W hJa hY h0 hSs (fun k hk => Nat.lt_of_lt_of_le (hSl k hk) hW.size) ((World.cell?_of_block (hK Bs hSs)).trans hbs) (fun W' h => hD W' (hK.trans h))).mono ?_
  rintro e W' ⟨hr, h | ⟨p, hp, hb, h⟩⟩
  · exact ⟨hr, .inl ⟨_, rfl, h⟩⟩
  · exact ⟨hr, .inr ⟨_, ⟨p, hp, hb, rfl⟩, h⟩⟩
end Go.Proofs.YtfoheajcahiceaaDoor
