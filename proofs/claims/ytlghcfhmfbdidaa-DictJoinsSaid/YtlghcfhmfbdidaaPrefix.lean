/- Dictionaries: Prefix. No condition. -/
import Derived.Test.YtlghcfhmfbdidaaPlace
namespace Go.Proofs.Ytlghcfhmfbdidaa
open Go.RowKit Go.Proofs.Ytlghcfhmfbdidaa.PAll Go.Proofs.YtlghcfhmfbdidaaW.PrintWords Go.Proofs.YtlghcfhmfbdidaaW.PrintLast Go.Proofs.YtlghcfhmfbdidaaW.PrintMore

def Tri (w4 : World) (p1 p2 p3 : Nat) (v1 v2 v3 : Value) (W : World) : Prop :=
  (W.cell? ⟨p1, 0, none⟩ = some v1 ∧ W.cell? ⟨p2, 0, none⟩ = some v2 ∧ W.cell? ⟨p3, 0, none⟩ = some v3) ∧ Below w4.heap.size w4 W
theorem Tri.below {w4 : World} {p1 p2 p3 : Nat} {v1 v2 v3 : Value} {W W' : World} (n1 : p1 < w4.heap.size) (n2 : p2 < w4.heap.size) (n3 : p3 < w4.heap.size) (h : Tri w4 p1 p2 p3 v1 v2 v3 W) (hb : Below W.heap.size W W') : Tri w4 p1 p2 p3 v1 v2 v3 W' := by
  obtain ⟨⟨h1, h2, h3⟩, hB⟩ := h
  have hn := hB.size
  exact ⟨⟨(hb.cell (p := ⟨p1, 0, none⟩) (Nat.lt_of_lt_of_le n1 hn)).trans h1, (hb.cell (p := ⟨p2, 0, none⟩) (Nat.lt_of_lt_of_le n2 hn)).trans h2, (hb.cell (p := ⟨p3, 0, none⟩) (Nat.lt_of_lt_of_le n3 hn)).trans h3⟩, hB.trans (hb.mono hn)⟩

set_option maxHeartbeats 400000 in
set_option maxRecDepth 100000 in
theorem prefix_any (g : Nat) (ns : List ByteArray) (vs : List Int) (b : ByteArray) (w : World) (hD : IsD w g ns vs) (hl : ns.length ≤ 1000000) :
    Calls Try.prog 11 #[.pointer (some ⟨g, 0, none⟩), .string b] w fun e w' => e = .returned (.tuple #[.int .i64 (placeN ns b), .int .i64 (prefixN ns b)]) ∧ Below w.heap.size w w' := by
  go_enter Try.func11, Try.ntmps11
  go_wp2_with fail
  have hb1 : Below w.heap.size w ((w.alloc (.cells #[.pointer (some ⟨g, 0, none⟩)] 24)).alloc (.cells #[.string b] 9)) := ((Below.refl _ w).alloc (Nat.le_refl _) _).alloc (by simp) _
  have x1 : ((w.alloc (.cells #[.pointer (some ⟨g, 0, none⟩)] 24)).alloc (.cells #[.string b] 9)).cell? ⟨w.heap.size, 0, none⟩ = some (.pointer (some ⟨g, 0, none⟩)) := by simp [go_sem]
  have x2 : ((w.alloc (.cells #[.pointer (some ⟨g, 0, none⟩)] 24)).alloc (.cells #[.string b] 9)).cell? ⟨w.heap.size + 1, 0, none⟩ = some (.string b) := by simp [go_sem]
  have l1 : w.heap.size < ((w.alloc (.cells #[.pointer (some ⟨g, 0, none⟩)] 24)).alloc (.cells #[.string b] 9)).heap.size := by simp; omega
  have l2 : w.heap.size + 1 < ((w.alloc (.cells #[.pointer (some ⟨g, 0, none⟩)] 24)).alloc (.cells #[.string b] 9)).heap.size := by simp
  generalize (w.alloc (.cells #[.pointer (some ⟨g, 0, none⟩)] 24)).alloc (.cells #[.string b] 9) = w2 at *
  refine (place_any g ns vs b w2 (hD.below hb1) hl).mono ?_
  rintro e w3 ⟨rfl, hb3⟩
  have hD3 := (hD.below hb1).below hb3
  have hb4 := hb1.trans (hb3.mono hb1.size)
  have y1 := (hb3.cell (p := ⟨w.heap.size, 0, none⟩) l1).trans x1
  have y2 := (hb3.cell (p := ⟨w.heap.size + 1, 0, none⟩) l2).trans x2
  have m1 := Nat.lt_of_lt_of_le l1 hb3.size
  have m2 := Nat.lt_of_lt_of_le l2 hb3.size
  clear x1 x2 l1 l2 hb1 hb3 hD
  have hle := placeN_le ns b
  generalize hK : placeN ns b = K at *
  have hP : prefixN ns b = K + leastM (preB ns b K) (ns.length - K + 1) 0 (ns.length - K) := by unfold prefixN; rw [hK]
  obtain ⟨A0, c0, A1, c1, hg0, hg1, hc0, hc1, hC, hV, hlt3⟩ := hD3.open
  go_wp2_with fail
  have hb5 : Below w.heap.size w (w3.alloc (.cells #[.int .i64 K] 3)) := hb4.alloc hb4.size _
  have hD4 : IsD (w3.alloc (.cells #[.int .i64 K] 3)) g ns vs := hD3.below ((Below.refl _ w3).alloc (Nat.le_refl _) _)
  have z1 : (w3.alloc (.cells #[.int .i64 K] 3)).cell? ⟨w.heap.size, 0, none⟩ = some (.pointer (some ⟨g, 0, none⟩)) := (((Below.refl _ w3).alloc (Nat.le_refl _) _).cell (p := ⟨w.heap.size, 0, none⟩) m1).trans y1
  have z2 : (w3.alloc (.cells #[.int .i64 K] 3)).cell? ⟨w.heap.size + 1, 0, none⟩ = some (.string b) := (((Below.refl _ w3).alloc (Nat.le_refl _) _).cell (p := ⟨w.heap.size + 1, 0, none⟩) m2).trans y2
  have z3 : (w3.alloc (.cells #[.int .i64 K] 3)).cell? ⟨w3.heap.size, 0, none⟩ = some (.int .i64 K) := by simp [go_sem]
  have q1 : w.heap.size < (w3.alloc (.cells #[.int .i64 K] 3)).heap.size := Nat.lt_of_lt_of_le m1 (by simp)
  have q2 : w.heap.size + 1 < (w3.alloc (.cells #[.int .i64 K] 3)).heap.size := Nat.lt_of_lt_of_le m2 (by simp)
  have q3 : w3.heap.size < (w3.alloc (.cells #[.int .i64 K] 3)).heap.size := by simp
  clear hg0 hg1 hc0 hc1 hC hV y1 y2 hD3 hb4 m1 m2
  generalize w3.alloc (.cells #[.int .i64 K] 3) = w4 at *
  generalize w3.heap.size = B3 at *
  obtain ⟨A0, c0, A1, c1, hg0, hg1, hc0, hc1, hC, hV, hlt3⟩ := hD4.open
  have hL : ∀ W, Below w4.heap.size w4 W → Calls Try.prog 30 #[.int .i64 (IntKind.i64.wrap ((ns.length : Int) - (K : Int))), .func (.func 31) #[] #[.pointer (some ⟨w.heap.size, 0, none⟩), .pointer (some ⟨B3, 0, none⟩), .pointer (some ⟨w.heap.size + 1, 0, none⟩)]] W fun e W' => e = .returned (.int .i64 (leastM (preB ns b K) (ns.length - K + 1) 0 (ns.length - K) : Nat)) ∧ Below W.heap.size W W' := by
    intro W hW
    rw [show IntKind.i64.wrap ((ns.length : Int) - (K : Int)) = ((ns.length - K : Nat) : Int) by rw [IntKind.wrap_i64]; omega]
    refine least_prefix (ns.length - K) _ _ _ (preB ns b K) W (by omega) ?_
    intro i W1 hi hb
    have hW1 := hW.trans (hb.mono hW.size)
    exact prefixFn_any _ _ _ g K ns vs b i W1 ((hW1.cell (p := ⟨w.heap.size, 0, none⟩) q1).trans z1) ((hW1.cell (p := ⟨B3, 0, none⟩) q3).trans z3) ((hW1.cell (p := ⟨w.heap.size + 1, 0, none⟩) q2).trans z2) (hD4.below hW1) (by omega) hl
  have hM := (leastM_bound (preB ns b K) (ns.length - K + 1) 0 (ns.length - K) (Nat.zero_le _)).2
  generalize leastM (preB ns b K) (ns.length - K + 1) 0 (ns.length - K) = M at *
  have hB0 : Below w4.heap.size w4 w4.drew := (Below.refl _ _).drew
  have hP2 : IntKind.i64.wrap ((K : Int) + (M : Int)) = ((K + M : Nat) : Int) := by rw [IntKind.wrap_i64]; omega
  have hLh := Lib.hid hL
  have hPh := Lib.hid hP
  have hP2h := Lib.hid hP2
  have hB0h := Lib.hid hB0
  have hb5h := Lib.hid hb5
  clear hL hP hP2 hM hB0 hD4 hC hV hc0 hc1 hle hb5
  go_region_held3 (fun W => (W.cell? ⟨w.heap.size, 0, none⟩ = some (.pointer (some ⟨g, 0, none⟩)) ∧ W.cell? ⟨B3, 0, none⟩ = some (.int .i64 K) ∧ W.cell? ⟨g, 0, none⟩ = some (.slice A0 ns.length c0)) ∧ Below w4.heap.size w4 W) (first | assumption | exact ⟨⟨z1, z3, hg0⟩, hB0h.out⟩ | go_keep)
    (first | (go_at_call 30; (with_reducible refine Calls.mono (hLh.out _ (And.right (by assumption))) ?_); rintro e w5 ⟨rfl, hb6⟩; have ht := Tri.below q1 q3 hlt3 (by assumption) hb6; unfold Tri at ht))
  all_goals
    have hE : Below w.heap.size w w5 := hb5h.out.trans (ht.2.mono hb5h.out.size)
    clear hLh
    go_show
    go_wp2_with fail
    trace_state
    go_ret2
    exact ⟨by rw [hK, hPh.out, ← hP2h.out]; rfl, hE⟩
end Go.Proofs.Ytlghcfhmfbdidaa
