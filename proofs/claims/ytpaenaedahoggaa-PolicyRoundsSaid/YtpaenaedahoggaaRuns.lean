import Derived.Test.YtpaenaedahoggaaPolAfterE
import Derived.Test.YtpaenaedahoggaaPick
import Derived.Test.YtpaenaedahoggaaAfter
import Derived.RangeFuncNested
import Derived.RangeFuncBound
import Derived.RangeFuncLeaves
import Derived.Shelf.Abstract
import Derived.Shelf.RegionOpen
import Derived.WalkKit
import Derived.OwnWalkIn
import Derived.TacticsInMore
import Derived.LoopNIn
import Derived.LoopIn
import Derived.Maps.AppendAt
/-! policy.runs: an iterator that keeps its sizes in a box of its own. -/
namespace Go.Proofs.Ytpaenaedahoggaa
open Go.RowKit Go.Shelf Go.Proofs.Ytpaenaedahoggaa.PAll Go.Proofs.YtpaenaedahoggaaW.PrintWords Go.Proofs.YtpaenaedahoggaaW.PrintLast Go.Proofs.YtpaenaedahoggaaW.PrintMore
attribute [local go_sem] Oper.semAt_some

def planF : Nat → List Int → Int → Int → List S25
  | 0, _, _, _ => []
  | f + 1, l, a, b => if (pickM l a b).2.2 then ⟨(pickM l a b).1, (pickM l a b).2.1⟩ :: planF f (afterM l (pickM l a b).1 (pickM l a b).2.1) a b else []
def plan (l : List Int) (a b : Int) : List S25 := planF l.length l a b
theorem pick_more {l : List Int} {a b : Int} (h : (pickM l a b).2.2 = true) : (afterM l (pickM l a b).1 (pickM l a b).2.1).length < l.length := by
  have hn : ¬ (l.length : Int) ≤ max a 1 := by intro hh; unfold pickM at h; rw [if_pos hh] at h; cases h
  obtain ⟨e1, e2, e3⟩ := pick_run l a b hn
  have := after_length l (pickM l a b).1 (pickM l a b).2.1 (by omega)
  omega
theorem planF_more : ∀ (f g : Nat) (l : List Int) (a b : Int), l.length ≤ f → l.length ≤ g → planF f l a b = planF g l a b
  | 0, 0, _, _, _, _, _ => rfl
  | 0, g + 1, l, a, b, hf, _ => by
    have hp : ¬ ((pickM l a b).2.2 = true) := fun h => by have := pick_more h; omega
    simp only [planF]; rw [if_neg hp]
  | f + 1, 0, l, a, b, _, hg => by
    have hp : ¬ ((pickM l a b).2.2 = true) := fun h => by have := pick_more h; omega
    simp only [planF]; rw [if_neg hp]
  | f + 1, g + 1, l, a, b, hf, hg => by
    simp only [planF]
    by_cases hp : (pickM l a b).2.2 = true
    · have := pick_more hp
      rw [if_pos hp, if_pos hp, planF_more f g _ a b (by omega) (by omega)]
    · rw [if_neg hp, if_neg hp]
theorem plan_step {l : List Int} {a b : Int} (h : (pickM l a b).2.2 = true) : plan l a b = ⟨(pickM l a b).1, (pickM l a b).2.1⟩ :: plan (afterM l (pickM l a b).1 (pickM l a b).2.1) a b := by
  have hl := pick_more h
  unfold plan
  rw [show planF l.length l a b = planF (l.length + 1) l a b from planF_more _ _ _ _ _ (Nat.le_refl _) (by omega)]
  simp only [planF]
  rw [if_pos h, planF_more l.length _ _ a b (by omega) (Nat.le_refl _)]
theorem plan_stop {l : List Int} {a b : Int} (h : (pickM l a b).2.2 = false) : plan l a b = [] := by
  unfold plan
  rw [show planF l.length l a b = planF (l.length + 1) l a b from planF_more _ _ _ _ _ (Nat.le_refl _) (by omega)]
  simp only [planF]
  rw [if_neg (by rw [h]; decide)]

def pk1 (l : List Int) (a b : Int) : Int := (pickM l a b).1
def pk2 (l : List Int) (a b : Int) : Int := (pickM l a b).2.1
def pkB (l : List Int) (a b : Int) : Bool := (pickM l a b).2.2
theorem pick_is {l : List Int} (a b : Int) (h : Small l) : policy_Pick.f l a b = some (pk1 l a b, pk2 l a b, pkB l a b) := if_pos h.fits
theorem after_is {l : List Int} (a b : Int) (h : Small l) : policy_After.f l a b = some (afterM l a b) := if_pos h.fits

/-- Whatever lies below N stays, one box apart. -/
def Keep1 (N B : Nat) (w w' : World) : Prop := Below 0 w w' ∧ ∀ k, k < N → k ≠ B → w'.heap[k]? = w.heap[k]?
theorem Keep1.refl (N B : Nat) (w : World) : Keep1 N B w w := ⟨Below.refl _ _, fun _ _ _ => rfl⟩
theorem Keep1.trans {N N' B : Nat} {w w' w2 : World} (h : Keep1 N B w w') (k : Keep1 N' B w' w2) (hN : N ≤ N') : Keep1 N B w w2 := ⟨h.1.trans k.1, fun j hj hB => (k.2 j (by omega) hB).trans (h.2 j hj hB)⟩
theorem Keep1.of_below {N B : Nat} {w w' : World} (h : Below N w w') : Keep1 N B w w' := ⟨h.mono (Nat.zero_le _), fun k hk _ => h.block k hk⟩
theorem Keep1.store {N B : Nat} {w w' : World} (h : Keep1 N B w w') (v : Value) : Keep1 N B w (w'.setCell ⟨B, 0, none⟩ v) :=
  ⟨h.1.setCell (p := ⟨B, 0, none⟩) (Nat.zero_le _) v, fun k hk hB => (Below.heap_setCell w' ⟨B, 0, none⟩ v k hB).trans (h.2 k hk hB)⟩
theorem Keep1.far {N B : Nat} {w w' : World} {p : Addr} (h : Keep1 N B w w') (hp : N ≤ p.block) (v : Value) : Keep1 N B w (w'.setCell p v) :=
  ⟨h.1.setCell (Nat.zero_le _) v, fun k hk hB => (Below.heap_setCell w' p v k (by omega)).trans (h.2 k hk hB)⟩
theorem two_other (w : World) (rb : Nat) (u v : Value) (k : Nat) (h : k ≠ rb) : ((w.setCell ⟨rb, 0, none⟩ u).setCell ⟨rb, 1, none⟩ v).heap[k]? = w.heap[k]? :=
  (Below.heap_setCell _ ⟨rb, 1, none⟩ v k h).trans (Below.heap_setCell w ⟨rb, 0, none⟩ u k h)
/-- What a round keeps for the iterator: all below n₀, its boxes, and what it laid since the last round. -/
def KpX (n₀ Bs Bm Bd : Nat) (W0 W1 W' : World) : Prop := Below 0 W1 W' ∧ ∀ k, k < W1.heap.size → (k < n₀ ∨ k = Bs ∨ k = Bm ∨ k = Bd ∨ W0.heap.size ≤ k) → W'.heap[k]? = W1.heap[k]?
theorem boxed_same {w w' : World} {B t : Nat} {v : Value} (h : Boxed w B t v) (hs : w'.heap[B]? = w.heap[B]?) : Boxed w' B t v := hs.trans h
theorem two_same {w w' : World} {B t : Nat} {u v : Value} (h : Two w B t u v) (hs : w'.heap[B]? = w.heap[B]?) : Two w' B t u v := hs.trans h
theorem boxed_below {w w' : World} {B t : Nat} {v : Value} (h : Boxed w B t v) (hb : Below w.heap.size w w') : Boxed w' B t v := (hb.block B h.lt).trans h

/-- How many sizes the box holds. -/
def sizeIn (W : World) (B : Nat) : Nat := match W.cell? ⟨B, 0, none⟩ with | some (.slice _ n _) => n | _ => 0

set_option maxRecDepth 100000 in
set_option maxHeartbeats 4000000 in
theorem runs1_in (n : Nat) (hn : 1 ≤ n) (l Bs Bm Bd n₀ : Nat) (A0 : Option Addr) (c0 : Nat) (xs : List Int) (a b : Int) (hxs : Small xs) (hc0 : xs.length ≤ c0) (J : List S25 → World → Prop)
    (hB1 : Bs ≠ Bm) (hB2 : Bs ≠ Bd) (_hB3 : n₀ ≤ Bs)
    (hY : ∀ pre x W0 W1, J pre W0 → Keep1 W0.heap.size Bs W0 W1 → (∃ s, Boxed W1 Bs 22 s) → pre.length < (plan xs a b).length → YieldAt Fence.wide (n - 1) Try.prog l #[.agg #[.int .i64 (S25.f0 x), .int .i64 (S25.f1 x)]] W1 fun e W' =>
      e = .returned (.bool true) ∧ J (pre ++ [x]) W' ∧ KpX n₀ Bs Bm Bd W0 W1 W')
    (W : World) (h1 : Boxed W Bs 22 (.slice A0 xs.length c0)) (h2 : Boxed W Bm 3 (.int .i64 a)) (h3 : Boxed W Bd 3 (.int .i64 b)) (hC : ∀ W', (∀ k, k < n₀ → W'.heap[k]? = W.heap[k]?) → Kd.C (Kd.int .i64) W' A0 xs.length xs) (hn₀ : n₀ ≤ W.heap.size) (h0 : J [] W) :
    CallsIn Fence.wide n Try.prog 28 #[.func (.yield l) #[] #[], .pointer (some ⟨Bs, 0, none⟩), .pointer (some ⟨Bm, 0, none⟩), .pointer (some ⟨Bd, 0, none⟩)] W fun e W' => (∃ v, e = .returned v) ∧ ∃ W0, J (plan xs a b) W0 ∧ Keep1 W0.heap.size Bs W0 W' := by
  refine callsIn_of_wp Try.func28 rfl trivial ?_ rfl
  simp only [Try.ntmps28, List.size_toArray, List.length_cons, List.length_nil, Nat.reduceAdd, Nat.reduceSub, Array.replicate_succ, Array.replicate_zero, List.push_toArray, List.append_toArray, List.nil_append, List.cons_append]
  have k1 := h1.cell
  have k2 := h2.cell
  have k3 := h3.cell
  gi_wp2_with fail
  refine ⟨trivial, (callsIn_wide.2 (policy_Pick.calls A0 c0 xs a b _ _ _ W (hC W (fun _ _ => rfl)) hc0 (pick_is a b hxs))).mono ?_⟩
  rintro e w1 ⟨rfl, hb⟩
  have hbz : Boxed w1 Bs 22 (.slice A0 xs.length c0) := boxed_below h1 hb
  gi_wp2_with fail
  gi_loopw [5, 6] (fun p i wr => ∃ (pre : List S25) (cur : List Int) (W0 : World) (rb : Nat) (A : Option Addr) (c : Nat), p = .pointer (some ⟨rb, 0, none⟩) ∧ i = .bool (pkB cur a b) ∧ plan xs a b = pre ++ plan cur a b ∧ Small cur ∧ cur.length ≤ c ∧
      Boxed wr Bs 22 (.slice A cur.length c) ∧ Boxed wr Bm 3 (.int .i64 a) ∧ Boxed wr Bd 3 (.int .i64 b) ∧ Two wr rb 25 (.int .i64 (pk1 cur a b)) (.int .i64 (pk2 cur a b)) ∧ W0.heap.size ≤ rb ∧ J pre W0 ∧ Keep1 W0.heap.size Bs W0 wr ∧
      (∀ W', (∀ k, k < wr.heap.size → (k < n₀ ∨ W0.heap.size ≤ k) → W'.heap[k]? = wr.heap[k]?) → Kd.C (Kd.int .i64) W' A cur.length cur) ∧ n₀ ≤ W0.heap.size ∧ Bs < W0.heap.size ∧ Bm < W0.heap.size ∧ Bd < W0.heap.size) (fun _ _ wr => sizeIn wr Bs)
  case atStart =>
    have hbW := hb.alloc hb.size (.cells #[.int .i64 (pk1 xs a b), .int .i64 (pk2 xs a b)] 25)
    refine ⟨[], xs, W, w1.heap.size, A0, c0, rfl, rfl, rfl, hxs, hc0, hbz.alloc _, (boxed_below h2 hb).alloc _, (boxed_below h3 hb).alloc _, Two.new _ _ _ _, hb.size, h0, Keep1.of_below hbW, fun W' hk => hC W' (fun k hk2 => ?_), hn₀, h1.lt, h2.lt, h3.lt⟩
    exact (hk k (by have := hb.size; simp; omega) (.inl hk2)).trans (hbW.block k (by omega))
  case round =>
    obtain ⟨pre, cur, W0, rb, A, c, rfl, rfl, hpl, hsm, hcl, g1, g2, g3, g4, g5, hJ, hkp, hCur, q0, q1, q2, q3⟩ := hrel
    cases hp : pkB cur a b with
    | false =>
      rw [plan_stop hp, List.append_nil] at hpl
      gi_wp2
      refine ⟨fun _ h => (by cases h), ?_⟩
      gi_wp2
      go_end0
      exact ⟨⟨_, rfl⟩, W0, hpl ▸ hJ, hkp⟩
    | true =>
      have hst := plan_step (l := cur) (a := a) (b := b) hp
      rw [hst] at hpl
      have hmore := pick_more (l := cur) (a := a) (b := b) hp
      obtain ⟨fn, tmps, assign, body, hy, hR⟩ := hY pre ⟨pk1 cur a b, pk2 cur a b⟩ W0 wr hJ hkp ⟨_, g1⟩ (by rw [hpl]; simp)
      dsimp only at hy
      have x1 := g4.cell0
      have x2 := g4.cell1
      gi_wp2
      refine hR.mono ?_
      rintro e W3 ⟨rfl, hJ3, hk3⟩
      have m1 : Boxed W3 Bs 22 (.slice A cur.length c) := boxed_same g1 (hk3.2 _ g1.lt (.inr (.inl rfl)))
      have m2 : Boxed W3 Bm 3 (.int .i64 a) := boxed_same g2 (hk3.2 _ g2.lt (.inr (.inr (.inl rfl))))
      have m3 : Boxed W3 Bd 3 (.int .i64 b) := boxed_same g3 (hk3.2 _ g3.lt (.inr (.inr (.inr (.inl rfl)))))
      have m4 : Two W3 rb 25 (.int .i64 (pk1 cur a b)) (.int .i64 (pk2 cur a b)) := two_same g4 (hk3.2 _ g4.lt (.inr (.inr (.inr (.inr g5)))))
      have m5 : Kd.C (Kd.int .i64) W3 A cur.length cur := hCur W3 (fun k hk hor => hk3.2 k hk (by rcases hor with h | h; exact .inl h; exact .inr (.inr (.inr (.inr h)))))
      have m6 := Nat.le_trans hkp.1.size hk3.1.size
      clear hy hR hCur
      have c1 := m1.cell
      have c4 := m4.cell0
      have c5 := m4.cell1
      gi_wp2_with fail
      refine ⟨trivial, (callsIn_wide.2 (policy_After.calls A c cur _ _ _ W3 m5 hcl (after_is _ _ hsm))).mono ?_⟩
      rintro e w4 ⟨v, rfl, hR4, hb4⟩
      obtain ⟨A4, c4', rfl⟩ := Kd.R_slice hR4
      have hsm4 := hsm.after (pk1 cur a b) (pk2 cur a b)
      have hmore4 : (afterM cur (pk1 cur a b) (pk2 cur a b)).length < cur.length := hmore
      have hpl4 : plan xs a b = (pre ++ [⟨pk1 cur a b, pk2 cur a b⟩]) ++ plan (afterM cur (pk1 cur a b) (pk2 cur a b)) a b := by rw [hpl, List.append_assoc]; rfl
      generalize afterM cur (pk1 cur a b) (pk2 cur a b) = nxt at *
      have n1 := boxed_below m1 hb4
      have n2 := boxed_below m2 hb4
      have n3 := boxed_below m3 hb4
      have n4 := m4.below hb4
      have n5 := n1.cell
      have n6 := n1.frozen
      have n7 := n4.cell0
      have n8 := n4.cell1
      have hrb : rb ≠ Bs := by omega
      have o1 := n1.set (.slice A4 nxt.length c4')
      have o2 := Boxed.other n2 hB1.symm (.slice A4 nxt.length c4')
      have o3 := Boxed.other n3 hB2.symm (.slice A4 nxt.length c4')
      have o4 : Two (w4.setCell ⟨Bs, 0, none⟩ (.slice A4 nxt.length c4')) rb 25 (.int .i64 (pk1 cur a b)) (.int .i64 (pk2 cur a b)) := two_same n4 (Below.heap_setCell w4 ⟨Bs, 0, none⟩ _ rb hrb)
      have o5 := o4.cell0
      have o6 := o4.cell1
      have oR : Kd.R (Kd.int .i64) 3 (w4.setCell ⟨Bs, 0, none⟩ (.slice A4 nxt.length c4')) W3.heap.size (fun _ => True) (.slice A4 nxt.length c4') nxt := Kd.R_grown1 hR4 rfl (grownBy_setCell' w4 Bs _) (Kd.R_ne hR4 n1 (by decide))
      have oK : Keep1 W3.heap.size Bs W3 (w4.setCell ⟨Bs, 0, none⟩ (.slice A4 nxt.length c4')) := (Keep1.of_below hb4).store _
      have oz : (w4.setCell ⟨Bs, 0, none⟩ (.slice A4 nxt.length c4')).heap.size = w4.heap.size := by simp
      have hz4 := hb4.size
      have r1 := o1.alloc (.cells #[.int .i64 (pk1 cur a b), .int .i64 (pk2 cur a b)] 25)
      have r2 := o2.alloc (.cells #[.int .i64 (pk1 cur a b), .int .i64 (pk2 cur a b)] 25)
      have r3 := o3.alloc (.cells #[.int .i64 (pk1 cur a b), .int .i64 (pk2 cur a b)] 25)
      have r4 := Two.new (w4.setCell ⟨Bs, 0, none⟩ (.slice A4 nxt.length c4')) 25 (.int .i64 (pk1 cur a b)) (.int .i64 (pk2 cur a b))
      rw [oz] at r4
      have rb6 : Below (w4.setCell ⟨Bs, 0, none⟩ (.slice A4 nxt.length c4')).heap.size (w4.setCell ⟨Bs, 0, none⟩ (.slice A4 nxt.length c4')) ((w4.setCell ⟨Bs, 0, none⟩ (.slice A4 nxt.length c4')).alloc (.cells #[.int .i64 (pk1 cur a b), .int .i64 (pk2 cur a b)] 25)) := (Below.refl _ _).alloc (Nat.le_refl _) _
      have rR := Kd.R_below oR rb6
      have rK := oK.trans (Keep1.of_below (B := Bs) rb6) (by rw [oz]; exact hz4)
      have r5 := r1.cell
      have r6 := r2.cell
      have r7 := r3.cell
      have hcn := (Kd.R_reads' rR).2.1
      gi_wp2_with fail
      refine ⟨trivial, (callsIn_wide.2 (policy_Pick.calls A4 c4' nxt a b _ _ _ _ (Kd.R_reads' rR).2.2 hcn (pick_is a b hsm4))).mono ?_⟩
      rintro e w7 ⟨rfl, hb7⟩
      have p1 := boxed_below r1 hb7
      have p2 := boxed_below r2 hb7
      have p3 := boxed_below r3 hb7
      have p4 := r4.below hb7
      have p5 := p4.cell0
      have p6 := p4.cell1
      have p7 := p4.frozen0
      have p8 := p4.frozen1
      have p9 := p4.set (.int .i64 (pk1 nxt a b)) (.int .i64 (pk2 nxt a b))
      have hK7 := rK.trans (Keep1.of_below (B := Bs) hb7) (by have := rK.1.size; exact this)
      have hK8 := (hK7.far (p := ⟨w4.heap.size, 0, none⟩) hz4 (.int .i64 (pk1 nxt a b))).far (p := ⟨w4.heap.size, 1, none⟩) hz4 (.int .i64 (pk2 nxt a b))
      have hoth := two_other w7 w4.heap.size (.int .i64 (pk1 nxt a b)) (.int .i64 (pk2 nxt a b))
      have e1 := boxed_same p1 (hoth Bs (by have := n1.lt; omega))
      have e2 := boxed_same p2 (hoth Bm (by have := n2.lt; omega))
      have e3 := boxed_same p3 (hoth Bd (by have := n3.lt; omega))
      have eC : ∀ W', (∀ k, k < ((w7.setCell ⟨w4.heap.size, 0, none⟩ (.int .i64 (pk1 nxt a b))).setCell ⟨w4.heap.size, 1, none⟩ (.int .i64 (pk2 nxt a b))).heap.size → (k < n₀ ∨ W3.heap.size ≤ k) → W'.heap[k]? = ((w7.setCell ⟨w4.heap.size, 0, none⟩ (.int .i64 (pk1 nxt a b))).setCell ⟨w4.heap.size, 1, none⟩ (.int .i64 (pk2 nxt a b))).heap[k]?) → Kd.C (Kd.int .i64) W' A4 nxt.length nxt := by
        intro W' hk
        have hstep := Kd.R_step (w1 := W') (Kd.R_bound oR) (fun k hkk _ => ?_)
        · exact (Kd.R_reads' hstep).2.2
        · have hlt : k < w4.heap.size := by rw [← oz]; exact hkk.2.2.1
          have hge := hkk.2.1
          have h6 : k < ((w4.setCell ⟨Bs, 0, none⟩ (.slice A4 nxt.length c4')).alloc (.cells #[.int .i64 (pk1 cur a b), .int .i64 (pk2 cur a b)] 25)).heap.size := by simp; omega
          have h7 := hb7.size
          exact (hk k (by simp at h7 ⊢; omega) (.inr hge)).trans ((hoth k (by omega)).trans ((hb7.block k h6).trans (rb6.block k (by rw [oz]; exact hlt))))
      have hs0 : sizeIn wr Bs = cur.length := by unfold sizeIn; rw [g1.cell]
      have hs1 : sizeIn ((w7.setCell ⟨w4.heap.size, 0, none⟩ (.int .i64 (pk1 nxt a b))).setCell ⟨w4.heap.size, 1, none⟩ (.int .i64 (pk2 nxt a b))) Bs = nxt.length := by unfold sizeIn; rw [e1.cell]
      have z0 := Nat.le_trans q0 m6
      have z1 := Nat.lt_of_lt_of_le q1 m6
      have z2 := Nat.lt_of_lt_of_le q2 m6
      have z3 := Nat.lt_of_lt_of_le q3 m6
      gi_wp2
      go_roundw
      case rel => exact ⟨_, nxt, W3, w4.heap.size, A4, c4', rfl, rfl, hpl4, hsm4, hcn, e1, e2, e3, p9, hz4, hJ3, hK8, eC, z0, z1, z2, z3⟩
      case measure => rw [hs0, hs1]; exact hmore4
end Go.Proofs.Ytpaenaedahoggaa
