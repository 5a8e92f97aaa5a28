/- Dictionaries: From, and its iterator. No condition. -/
import Derived.Test.YtlghcfhmfbdidaaPlace
import Derived.Test.YtlghcfhmfbdidaaFindsPlain
import Derived.RangeFuncNested
import Derived.RangeFuncBound
import Derived.RangeFuncLeaves
import Derived.RangeFuncWrites
import Derived.Shelf.Abstract
import Derived.Shelf.RegionOpen
import Derived.Stop.RegionWithIn
import Derived.WalkKit
import Derived.OwnWalkIn
import Derived.TacticsInMore
import Derived.LoopNIn
import Derived.LoopIn
import Derived.Maps.AppendAt
namespace Go.Proofs.Ytlghcfhmfbdidaa
open Go.RowKit Go.Shelf Go.Proofs.Ytlghcfhmfbdidaa.PAll Go.Proofs.YtlghcfhmfbdidaaW.PrintWords Go.Proofs.YtlghcfhmfbdidaaW.PrintLast Go.Proofs.YtlghcfhmfbdidaaW.PrintMore
attribute [local go_sem] Oper.semAt_some

theorem from_in (n g : Nat) (i : Int) (w : World) :
    CallsIn Fence.wide n Try.prog 17 #[.pointer (some ⟨g, 0, none⟩), .int .i64 i] w fun e w' =>
      e = .returned (.func (.func 35) #[] #[.pointer (some ⟨w.heap.size + 1, 0, none⟩), .pointer (some ⟨w.heap.size, 0, none⟩)]) ∧
      w' = (w.alloc (.cells #[.pointer (some ⟨g, 0, none⟩)] 24)).alloc (.cells #[.int .i64 i] 3) := by
  refine callsIn_of_wp Try.func17 rfl trivial ?_ rfl
  simp only [Try.ntmps17, List.size_toArray, List.length_cons, List.length_nil, Nat.reduceAdd, Nat.reduceSub, Array.replicate_succ, Array.replicate_zero, List.push_toArray, List.append_toArray, List.nil_append, List.cons_append]
  gi_wp2
  go_ret
  exact ⟨rfl, rfl⟩

/-- Names and things from place a on, the first m of them. -/
def told (ns : List ByteArray) (vs : List Int) (a : Nat) : Nat → List (ByteArray × Int)
  | 0 => []
  | m + 1 => told ns vs a m ++ [(nth ns (a + m), rd vs ((a + m : Nat) : Int))]
theorem told_len (ns : List ByteArray) (vs : List Int) (a : Nat) : ∀ m, (told ns vs a m).length = m
  | 0 => rfl
  | m + 1 => by unfold told; rw [List.length_append, told_len ns vs a m]; rfl
/-- What the body of a round must keep: the blocks of S. -/
def Kp (S : Nat → Prop) (W W' : World) : Prop := ∀ k, S k → W'.heap[k]? = W.heap[k]?
def encD (x : ByteArray × Int) : Array Value := #[.string x.1, .int .i64 x.2]

theorem yield_bool {e : Ending} {A B : Prop} (h : (e = .returned (.bool true) ∧ A) ∨ (e = .returned (.bool false) ∧ B)) : ∃ b, e = .returned (.bool b) ∧ (b = true → A) ∧ (b = false → B) := by
  rcases h with ⟨rfl, h⟩ | ⟨rfl, h⟩
  · exact ⟨true, rfl, fun _ => h, fun h2 => by cases h2⟩
  · exact ⟨false, rfl, fun h2 => (by cases h2), fun _ => h⟩
set_option maxRecDepth 100000 in
set_option maxHeartbeats 8000000 in
theorem from1_in (n : Nat) (l Bi Bd g : Nat) (S : Nat → Prop) (i : Int) (ns : List ByteArray) (vs : List Int) (hv : vs.length = ns.length) (hn : ns.length ≤ 1000000) (J Jx : List (ByteArray × Int) → World → Prop) (W : World)
    (hJa : AbidesFrom W.heap.size J) (hi1 : -9223372036854775808 ≤ i) (hi2 : i ≤ 9223372036854775807)
    (hY : ∀ pre x W1, J pre W1 → pre.length < ns.length - i.toNat → YieldAt Fence.wide (n - 1) Try.prog l (encD x) W1 fun e W' =>
      (e = .returned (.bool true) ∧ J (pre ++ [x]) W' ∧ Kp S W1 W') ∨ (e = .returned (.bool false) ∧ Jx (pre ++ [x]) W'))
    (h0 : J [] W) (hSi : S Bi) (hSd : S Bd)
    (hbi : W.cell? ⟨Bi, 0, none⟩ = some (.int .i64 i)) (hbd : W.cell? ⟨Bd, 0, none⟩ = some (.pointer (some ⟨g, 0, none⟩))) (hD : ∀ W', Kp S W W' → IsD W' g ns vs) :
    CallsIn Fence.wide n Try.prog 35 #[.func (.yield l) #[] #[], .pointer (some ⟨Bi, 0, none⟩), .pointer (some ⟨Bd, 0, none⟩)] W fun e W' =>
      (∃ v, e = .returned v) ∧ ((J (told ns vs i.toNat (ns.length - i.toNat)) W') ∨ (∃ m, m < ns.length - i.toNat ∧ Jx (told ns vs i.toNat (m + 1)) W')) := by
  refine callsIn_of_wp Try.func35 rfl trivial ?_ rfl
  simp only [Try.ntmps35, List.size_toArray, List.length_cons, List.length_nil, Nat.reduceAdd, Nat.reduceSub, Array.replicate_succ, Array.replicate_zero, List.push_toArray, List.append_toArray, List.nil_append, List.cons_append]
  have hmax : max i 0 = (i.toNat : Int) := by omega
  generalize hA : i.toNat = a at *
  gi_wp2_with fail
  gi_loopw [4] (fun vk wr => ∃ m : Nat, m ≤ ns.length - a ∧ vk = .int .i64 ((a + m : Nat) : Int) ∧ J (told ns vs a m) wr ∧ Kp S W wr) (fun vk _ => ns.length - (intOf vk).toNat)
  case atStart => exact ⟨0, by omega, rfl, h0, fun _ _ => rfl⟩
  case round =>
    obtain ⟨m, hm, rfl, hJ, hk⟩ := hrel
    have hdd := hD wr hk
    obtain ⟨A0, c0, A1, c1, hg0, hg1, hc0, hc1, hC, hV, hlt⟩ := hdd.open
    have hbd1 : wr.cell? ⟨Bd, 0, none⟩ = some (.pointer (some ⟨g, 0, none⟩)) := (World.cell?_of_block (hk Bd hSd)).trans hbd
    by_cases hlt : m < ns.length - a
    · obtain ⟨a0, rfl, hx⟩ := Kd.at_string hC ((a + m : Nat) : Int) (by omega) (by omega)
      obtain ⟨a1, rfl, hy⟩ := Kd.at_int hV ((a + m : Nat) : Int) (by omega) (by omega)
      have hx2 : wr.cell? (a0.add (a + m)) = some (.string (nth ns (a + m))) := hx
      have hy2 : wr.cell? (a1.add (a + m)) = some (.int .i64 (rd vs ((a + m : Nat) : Int))) := hy
      have hKl : a + m < ns.length := by omega
      have hKb : a + m ≤ 1000000 := by omega
      generalize hK : a + m = K at *
      have p0 := eq_true (show (0 : Int) ≤ (K : Int) by omega)
      have p1 := eq_true (show (K : Int) < (ns.length : Int) by omega)
      have p2 := eq_true (show (K : Int) < (vs.length : Int) by omega)
      clear hx hy hC hV hc0 hc1 hdd
      have hJd : J (told ns vs a m) wr.drew := hJa _ wr _ none hJ ⟨rfl, rfl, rfl, Nat.le_refl _, fun _ _ _ => rfl⟩ (fun r e => by cases e)
      obtain ⟨fn, tmps, assign, body, hy, hR⟩ := hY (told ns vs a m) (nth ns K, rd vs (K : Int)) wr.drew hJd (by rw [told_len]; omega)
      dsimp only [encD] at hy
      gi_wp2
      have hRh := Lib.hid hR
      have hkh := Lib.hid hk
      have hmh := Lib.hid (show m + 1 ≤ ns.length - a from hlt)
      have hih := Lib.hid (show ns.length ≤ 1000000 from hn)
      clear hR hY hJa hD hi1 hi2 hJd hk hJ h0 hSi hSd hbi hm hn hv hmax
      have hdep : Fence.wide.depth.isSome = true → 1 ≤ n := fun h => absurd h (by decide)
      gi_region_with (refine ⟨hdep, RoundIn.mono hRh.out ?_⟩; rintro e W3 hor; obtain ⟨b, rfl, hb1, hb2⟩ := yield_bool hor; clear hor)
      all_goals
        cases b with
        | true =>
          obtain ⟨hJ3, hk3⟩ := hb1 rfl
          gi_wp2_with fail
          go_roundw
          case rel => exact ⟨m + 1, hmh.out, by rw [show ((a + (m + 1) : Nat) : Int) = (K : Int) + 1 by omega], by unfold told; rw [hK]; exact hJ3, fun k hS => (hk3 k hS).trans (hkh.out k hS)⟩
          case measure => simp [intOf]; omega
        | false =>
          have hx3 := hb2 rfl
          gi_wp2_with fail
          refine bodyPost_ret (v := .tuple #[]) (by simp [results, Try.results35, go_sem]) rfl ⟨⟨_, rfl⟩, .inr ⟨m, hlt, by unfold told; rw [hK]; exact hx3⟩⟩
    · obtain rfl : m = ns.length - a := by omega
      have hge : ¬ (((a + (ns.length - a) : Nat) : Int) < (ns.length : Int)) := by omega
      generalize a + (ns.length - a) = K at *
      gi_wp2_with fail
      go_end0
      exact ⟨⟨_, rfl⟩, .inl hJ⟩
end Go.Proofs.Ytlghcfhmfbdidaa
