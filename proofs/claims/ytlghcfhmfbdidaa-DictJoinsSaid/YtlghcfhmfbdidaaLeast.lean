/- Dictionaries: least, Place, Find, Prefix. No condition. -/
import Derived.Test.YtlghcfhmfbdidaaDict
import Derived.Lib.Hide
namespace Go.Proofs.Ytlghcfhmfbdidaa
open Go.RowKit Go.Proofs.YtlghcfhmfbdidaaW.PrintWords Go.Proofs.YtlghcfhmfbdidaaW.PrintLast Go.Proofs.YtlghcfhmfbdidaaW.PrintMore


set_option maxHeartbeats 400000 in
set_option maxRecDepth 100000 in
theorem least_place (n : Nat) (p q : Value) (f : Nat → Bool) (w : World) (hn : n ≤ 1000000000000)
    (hc : ∀ (i : Nat) (W : World), i < n → Below w.heap.size w W → Calls Try.prog 33 #[.int .i64 i, p, q] W fun e W' => e = .returned (.bool (f i)) ∧ Below W.heap.size W W') :
    Calls Try.prog 30 #[.int .i64 n, .func (.func 33) #[] #[p, q]] w fun e w' => e = .returned (.int .i64 (leastM f (n + 1) 0 n)) ∧ Below w.heap.size w w' := by
  generalize hR : leastM f (n + 1) 0 n = R
  go_enter Try.func30, Try.ntmps30
  go_wp2_with fail
  go_loopw [5, 0] (fun va vb wr => ∃ k a b : Nat, b - a < k ∧ a ≤ b ∧ b ≤ n ∧ va = .int .i64 a ∧ vb = .int .i64 b ∧ leastM f k a b = R ∧ Below w.heap.size w wr) (fun va vb _ => (intOf vb).toNat - (intOf va).toNat)
  case atStart => exact ⟨n + 1, 0, n, by omega, by omega, by omega, rfl, rfl, hR, Below.refl _ _⟩
  case round =>
    clear hR
    obtain ⟨k, a, b, hk, hab, hbn, rfl, rfl, hR, hb⟩ := hrel
    obtain ⟨k, rfl⟩ : ∃ j, k = j + 1 := ⟨k - 1, by omega⟩
    by_cases hlt : a < b
    · have hlt2 : (a : Int) < (b : Int) := by omega
      have hm : ((a : Int) + ((b : Int) - (a : Int)) / 2) = ((a + (b - a) / 2 : Nat) : Int) := by omega
      have hR' := Lib.hid hR
      clear hR
      generalize hM : a + (b - a) / 2 = M at *
      have hM1 : a ≤ M := by omega
      have hM2 : M < b := by omega
      go_wp2_with fail
      refine (hc M _ (by omega) hb).mono ?_
      rintro e w1 ⟨rfl, hb1⟩
      have hb2 := hb.trans (hb1.mono hb.size)
      have hR := hR'.out
      unfold leastM at hR
      rw [if_pos hlt, hM] at hR
      cases hf : f M
      · rw [hf, if_neg (by simp)] at hR
        go_wp2_with fail
        go_roundw
        case rel => exact ⟨k, M + 1, b, by omega, by omega, by omega, by go_num, rfl, hR, hb2⟩
        case measure => simp [intOf]; omega
      · rw [hf, if_pos rfl] at hR
        go_wp2_with fail
        go_roundw
        case rel => exact ⟨k, a, M, by omega, by omega, by omega, rfl, rfl, hR, hb2⟩
        case measure => simp [intOf]; omega
    · have hlt2 : ¬ (a : Int) < (b : Int) := by omega
      unfold leastM at hR
      rw [if_neg hlt] at hR
      subst hR
      go_wp2_with fail
      go_ret
      exact ⟨rfl, hb⟩

set_option maxHeartbeats 400000 in
set_option maxRecDepth 100000 in
theorem least_prefix (n : Nat) (p q r : Value) (f : Nat → Bool) (w : World) (hn : n ≤ 1000000000000)
    (hc : ∀ (i : Nat) (W : World), i < n → Below w.heap.size w W → Calls Try.prog 31 #[.int .i64 i, p, q, r] W fun e W' => e = .returned (.bool (f i)) ∧ Below W.heap.size W W') :
    Calls Try.prog 30 #[.int .i64 n, .func (.func 31) #[] #[p, q, r]] w fun e w' => e = .returned (.int .i64 (leastM f (n + 1) 0 n)) ∧ Below w.heap.size w w' := by
  generalize hR : leastM f (n + 1) 0 n = R
  go_enter Try.func30, Try.ntmps30
  go_wp2_with fail
  go_loopw [5, 0] (fun va vb wr => ∃ k a b : Nat, b - a < k ∧ a ≤ b ∧ b ≤ n ∧ va = .int .i64 a ∧ vb = .int .i64 b ∧ leastM f k a b = R ∧ Below w.heap.size w wr) (fun va vb _ => (intOf vb).toNat - (intOf va).toNat)
  case atStart => exact ⟨n + 1, 0, n, by omega, by omega, by omega, rfl, rfl, hR, Below.refl _ _⟩
  case round =>
    clear hR
    obtain ⟨k, a, b, hk, hab, hbn, rfl, rfl, hR, hb⟩ := hrel
    obtain ⟨k, rfl⟩ : ∃ j, k = j + 1 := ⟨k - 1, by omega⟩
    by_cases hlt : a < b
    · have hlt2 : (a : Int) < (b : Int) := by omega
      have hm : ((a : Int) + ((b : Int) - (a : Int)) / 2) = ((a + (b - a) / 2 : Nat) : Int) := by omega
      have hR' := Lib.hid hR
      clear hR
      generalize hM : a + (b - a) / 2 = M at *
      have hM1 : a ≤ M := by omega
      have hM2 : M < b := by omega
      go_wp2_with fail
      refine (hc M _ (by omega) hb).mono ?_
      rintro e w1 ⟨rfl, hb1⟩
      have hb2 := hb.trans (hb1.mono hb.size)
      have hR := hR'.out
      unfold leastM at hR
      rw [if_pos hlt, hM] at hR
      cases hf : f M
      · rw [hf, if_neg (by simp)] at hR
        go_wp2_with fail
        go_roundw
        case rel => exact ⟨k, M + 1, b, by omega, by omega, by omega, by go_num, rfl, hR, hb2⟩
        case measure => simp [intOf]; omega
      · rw [hf, if_pos rfl] at hR
        go_wp2_with fail
        go_roundw
        case rel => exact ⟨k, a, M, by omega, by omega, by omega, rfl, rfl, hR, hb2⟩
        case measure => simp [intOf]; omega
    · have hlt2 : ¬ (a : Int) < (b : Int) := by omega
      unfold leastM at hR
      rw [if_neg hlt] at hR
      subst hR
      go_wp2_with fail
      go_ret
      exact ⟨rfl, hb⟩
end Go.Proofs.Ytlghcfhmfbdidaa
