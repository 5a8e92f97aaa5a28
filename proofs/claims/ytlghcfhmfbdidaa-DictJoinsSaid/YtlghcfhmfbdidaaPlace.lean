/- Dictionaries: Place. No condition. -/
import Derived.Test.YtlghcfhmfbdidaaLeast
import Derived.Test.YtlghcfhmfbdidaaPAllx1
import Derived.Test.YtlghcfhmfbdidaaPAllx2
namespace Go.Proofs.Ytlghcfhmfbdidaa
open Go.RowKit Go.Proofs.Ytlghcfhmfbdidaa.PAll Go.Proofs.YtlghcfhmfbdidaaW.PrintWords Go.Proofs.YtlghcfhmfbdidaaW.PrintLast Go.Proofs.YtlghcfhmfbdidaaW.PrintMore

def nth (ns : List ByteArray) (i : Nat) : ByteArray := rdOf ByteArray.empty ns (i : Int)
def geB (ns : List ByteArray) (name : ByteArray) (i : Nat) : Bool := !(Op.bytesLess (nth ns i).toList name.toList)
def placeN (ns : List ByteArray) (name : ByteArray) : Nat := leastM (geB ns name) (ns.length + 1) 0 ns.length
def placeB (ns : List ByteArray) (name : ByteArray) : Bool := decide (placeN ns name < ns.length) && ((nth ns (placeN ns name)).toList == name.toList)
theorem placeN_le (ns : List ByteArray) (name : ByteArray) : placeN ns name ≤ ns.length := (leastM_bound _ _ _ _ (Nat.zero_le _)).2

set_option maxHeartbeats 400000 in
set_option maxRecDepth 100000 in
theorem placeFn_any (Bd Bn g : Nat) (ns : List ByteArray) (vs : List Int) (name : ByteArray) (i : Nat) (w : World) (hd : w.cell? ⟨Bd, 0, none⟩ = some (.pointer (some ⟨g, 0, none⟩))) (hn : w.cell? ⟨Bn, 0, none⟩ = some (.string name)) (hD : IsD w g ns vs) (hi : i < ns.length) :
    Calls Try.prog 33 #[.int .i64 i, .pointer (some ⟨Bd, 0, none⟩), .pointer (some ⟨Bn, 0, none⟩)] w fun e w' => e = .returned (.bool (geB ns name i)) ∧ Below w.heap.size w w' := by
  obtain ⟨A0, c0, A1, c1, hg0, hg1, hc0, hc1, hC, hV, hlt⟩ := hD.open
  obtain ⟨ad, rfl, hx⟩ := Kd.at_string hC (i : Int) (by omega) (by omega)
  have hx2 : w.cell? (ad.add i) = some (.string (nth ns i)) := hx
  have p0 := eq_true (show (0 : Int) ≤ (i : Int) by omega)
  have p1 := eq_true (show (i : Int) < (ns.length : Int) by omega)
  unfold geB
  go_enter Try.func33, Try.ntmps33
  go_wp2
  go_quiet (fail)
  go_wp2
  go_ret
  exact ⟨rfl, pw_below_drewN (Below.refl _ _) _⟩

set_option maxHeartbeats 400000 in
set_option maxRecDepth 100000 in
theorem place_any (g : Nat) (ns : List ByteArray) (vs : List Int) (name : ByteArray) (w : World) (hD : IsD w g ns vs) (hl : ns.length ≤ 1000000) :
    Calls Try.prog 13 #[.pointer (some ⟨g, 0, none⟩), .string name] w fun e w' => e = .returned (.tuple #[.int .i64 (placeN ns name), .bool (placeB ns name)]) ∧ Below w.heap.size w w' := by
  obtain ⟨A0, c0, A1, c1, hg0, hg1, hc0, hc1, hC, hV, hlt⟩ := hD.open
  go_enter Try.func13, Try.ntmps13
  go_wp2_with fail
  have hb1 : Below w.heap.size w ((w.alloc (.cells #[.pointer (some ⟨g, 0, none⟩)] 24)).alloc (.cells #[.string name] 9)) := ((Below.refl _ w).alloc (Nat.le_refl _) _).alloc (by simp) _
  have x1 : ((w.alloc (.cells #[.pointer (some ⟨g, 0, none⟩)] 24)).alloc (.cells #[.string name] 9)).cell? ⟨w.heap.size, 0, none⟩ = some (.pointer (some ⟨g, 0, none⟩)) := by simp [go_sem]
  have x2 : ((w.alloc (.cells #[.pointer (some ⟨g, 0, none⟩)] 24)).alloc (.cells #[.string name] 9)).cell? ⟨w.heap.size + 1, 0, none⟩ = some (.string name) := by simp [go_sem]
  have l1 : w.heap.size < ((w.alloc (.cells #[.pointer (some ⟨g, 0, none⟩)] 24)).alloc (.cells #[.string name] 9)).heap.size := by simp; omega
  have l2 : w.heap.size + 1 < ((w.alloc (.cells #[.pointer (some ⟨g, 0, none⟩)] 24)).alloc (.cells #[.string name] 9)).heap.size := by simp
  generalize (w.alloc (.cells #[.pointer (some ⟨g, 0, none⟩)] 24)).alloc (.cells #[.string name] 9) = w2 at *
  refine (least_place ns.length (.pointer (some ⟨w.heap.size, 0, none⟩)) (.pointer (some ⟨w.heap.size + 1, 0, none⟩)) (geB ns name) w2 (by omega) ?_).mono ?_
  · intro i W hi hb
    exact placeFn_any w.heap.size (w.heap.size + 1) g ns vs name i W ((hb.cell (p := ⟨w.heap.size, 0, none⟩) l1).trans x1) ((hb.cell (p := ⟨w.heap.size + 1, 0, none⟩) l2).trans x2) ((hD.below hb1).below hb) hi
  rintro e w3 ⟨rfl, hb3⟩
  have hD3 := (hD.below hb1).below hb3
  have hb4 := hb1.trans (hb3.mono hb1.size)
  have y1 := (hb3.cell (p := ⟨w.heap.size, 0, none⟩) l1).trans x1
  have y2 := (hb3.cell (p := ⟨w.heap.size + 1, 0, none⟩) l2).trans x2
  clear hg0 hg1 hc0 hc1 hC hV x1 x2 hb1 hb3 hD
  have hfold : leastM (geB ns name) (ns.length + 1) 0 ns.length = placeN ns name := rfl
  rw [hfold]
  have hle := placeN_le ns name
  generalize hK : placeN ns name = K at *
  obtain ⟨A0', c0', A1', c1', hg0, hg1, hc0, hc1, hC, hV, hlt3⟩ := hD3.open
  by_cases hk : K < ns.length
  · obtain ⟨ad, rfl, hx⟩ := Kd.at_string hC (K : Int) (by omega) (by omega)
    have hx2 : w3.cell? (ad.add K) = some (.string (nth ns K)) := hx
    have p0 := eq_true (show (0 : Int) ≤ (K : Int) by omega)
    have p1 := eq_true (show (K : Int) < (ns.length : Int) by omega)
    have hB : placeB ns name = ((nth ns K).toList == name.toList) := by unfold placeB; rw [hK, decide_eq_true hk, Bool.true_and]


    go_wp2
    repeat (go_quiet (fail); try go_wp2)
    go_ret2
    exact ⟨by rw [hB, hK]; rfl, pw_below_drewN hb4 _⟩
  · have p1 : ¬ (K : Int) < (ns.length : Int) := by omega
    have hB : placeB ns name = false := by unfold placeB; rw [hK, decide_eq_false hk, Bool.false_and]

    go_wp2
    repeat (go_quiet (fail); try go_wp2)
    go_ret2
    exact ⟨by rw [hB, hK]; rfl, pw_below_drewN hb4 _⟩

def findV (ns : List ByteArray) (vs : List Int) (name : ByteArray) : Int := if placeB ns name then rd vs (placeN ns name : Int) else 0
theorem placeB_lt {ns : List ByteArray} {name : ByteArray} (h : placeB ns name = true) : placeN ns name < ns.length := by
  unfold placeB at h
  exact of_decide_eq_true (Bool.and_eq_true_iff.1 h).1

set_option maxHeartbeats 400000 in
set_option maxRecDepth 100000 in
theorem find_any (g : Nat) (ns : List ByteArray) (vs : List Int) (name : ByteArray) (w : World) (hD : IsD w g ns vs) (hl : ns.length ≤ 1000000) (hv : vs.length = ns.length) :
    Calls Try.prog 15 #[.pointer (some ⟨g, 0, none⟩), .string name] w fun e w' => e = .returned (.tuple #[.int .i64 (findV ns vs name), .bool (placeB ns name)]) ∧ Below w.heap.size w w' := by
  go_enter Try.func15, Try.ntmps15
  go_wp2_with fail
  refine (place_any g ns vs name w hD hl).mono ?_
  rintro e w3 ⟨rfl, hb3⟩
  obtain ⟨A0, c0, A1, c1, hg0, hg1, hc0, hc1, hC, hV, hlt⟩ := (hD.below hb3).open
  cases hB : placeB ns name with
  | false =>
    have hF : findV ns vs name = 0 := by unfold findV; rw [hB]; rfl
    go_wp2_with fail
    go_ret2
    exact ⟨by rw [hF, hB]; rfl, hb3⟩
  | true =>
    have hk := placeB_lt hB
    have hF : findV ns vs name = rd vs (placeN ns name : Int) := by unfold findV; rw [hB]; rfl
    generalize hK : placeN ns name = K at *
    obtain ⟨ad, rfl, hx⟩ := Kd.at_int hV (K : Int) (by omega) (by omega)
    have hx2 : w3.cell? (ad.add K) = some (.int .i64 (rd vs (K : Int))) := hx
    have p0 := eq_true (show (0 : Int) ≤ (K : Int) by omega)
    have p1 := eq_true (show (K : Int) < (vs.length : Int) by omega)
    go_wp2
    repeat (go_quiet (fail); try go_wp2)
    go_ret2
    exact ⟨by rw [hF, hB]; rfl, hb3⟩

def preB (ns : List ByteArray) (b : ByteArray) (K i : Nat) : Bool := !(Lib.hasPrefix (nth ns (K + i)).data.toList b.data.toList)
def prefixN (ns : List ByteArray) (b : ByteArray) : Nat := placeN ns b + leastM (preB ns b (placeN ns b)) (ns.length - placeN ns b + 1) 0 (ns.length - placeN ns b)

set_option maxHeartbeats 400000 in
set_option maxRecDepth 100000 in
theorem prefixFn_any (Bd Bf Bn g K : Nat) (ns : List ByteArray) (vs : List Int) (b : ByteArray) (i : Nat) (w : World) (hd : w.cell? ⟨Bd, 0, none⟩ = some (.pointer (some ⟨g, 0, none⟩))) (hf : w.cell? ⟨Bf, 0, none⟩ = some (.int .i64 K)) (hn : w.cell? ⟨Bn, 0, none⟩ = some (.string b)) (hD : IsD w g ns vs) (hi : K + i < ns.length) (hl : ns.length ≤ 1000000) :
    Calls Try.prog 31 #[.int .i64 i, .pointer (some ⟨Bd, 0, none⟩), .pointer (some ⟨Bf, 0, none⟩), .pointer (some ⟨Bn, 0, none⟩)] w fun e w' => e = .returned (.bool (preB ns b K i)) ∧ Below w.heap.size w w' := by
  obtain ⟨A0, c0, A1, c1, hg0, hg1, hc0, hc1, hC, hV, hlt⟩ := hD.open
  obtain ⟨ad, rfl, hx⟩ := Kd.at_string hC ((K + i : Nat) : Int) (by omega) (by omega)
  have hx2 : w.cell? (ad.add (K + i)) = some (.string (nth ns (K + i))) := hx
  have hx3 : w.cell? (ad.add ((K : Int) + (i : Int)).toNat) = some (.string (nth ns (K + i))) := by rw [show ((K : Int) + (i : Int)).toNat = K + i by omega]; exact hx2
  have p0 := eq_true (show (0 : Int) ≤ (K : Int) + (i : Int) by omega)
  have p1 := eq_true (show (K : Int) + (i : Int) < (ns.length : Int) by omega)
  have hw : IntKind.i64.wrap ((K : Int) + (i : Int)) = (K : Int) + (i : Int) := by rw [IntKind.wrap_i64]; omega
  unfold preB
  go_enter Try.func31, Try.ntmps31
  go_wp2
  go_quiet (first | (go_at_call 32; (with_reducible refine (Try.strings_HasPrefix _ _ _).mono ?_); rintro e w' ⟨rfl, rfl⟩; (try first | exact ⟨rfl, _, rfl⟩ | exact ⟨rfl, _, World.drewN_drewN _ _ _⟩)))
  go_wp2
  go_ret
  exact ⟨rfl, pw_below_drewN (Below.refl _ _) _⟩

end Go.Proofs.Ytlghcfhmfbdidaa
