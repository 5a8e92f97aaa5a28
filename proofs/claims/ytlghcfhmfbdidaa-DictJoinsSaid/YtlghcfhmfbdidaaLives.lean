/- Dictionaries: the document's example. No condition. -/
import Derived.Test.YtlghcfhmfbdidaaMade
import Derived.Test.YtlghcfhmfbdidaaPrefix
namespace Go.Proofs.Ytlghcfhmfbdidaa
open Go.RowKit Go.Proofs.Ytlghcfhmfbdidaa.PAll Go.Proofs.YtlghcfhmfbdidaaW.PrintWords Go.Proofs.YtlghcfhmfbdidaaW.PrintLast Go.Proofs.YtlghcfhmfbdidaaW.PrintMore

theorem len_any (g : Nat) (ns : List ByteArray) (vs : List Int) (w : World) (hD : IsD w g ns vs) :
    Calls Try.prog 22 #[.pointer (some ⟨g, 0, none⟩)] w fun e w' => e = .returned (.int .i64 ns.length) ∧ w' = w := by
  obtain ⟨A0, c0, A1, c1, hg0, hg1, hc0, hc1, hC, hV, hlt⟩ := hD.open
  go_enter Try.func22, Try.ntmps22
  go_wp2
  go_ret
  exact ⟨rfl, rfl⟩

def exNs : List ByteArray := [⟨#[97]⟩, ⟨#[99]⟩]
theorem toListD (s : ByteArray) : s.toList = s.data.toList := Lib.toList_data s
theorem ex_place : placeN exNs ⟨#[98]⟩ = 1 := by simp [placeN, exNs, leastM, geB, nth, rdOf, toListD, Op.bytesLess]
theorem ex_placeB : placeB exNs ⟨#[98]⟩ = false := by simp [placeB, placeN, exNs, leastM, geB, nth, rdOf, toListD, Op.bytesLess]
theorem ex_place2 : placeN exNs ⟨#[99]⟩ = 1 := by simp [placeN, exNs, leastM, geB, nth, rdOf, toListD, Op.bytesLess]
theorem ex_prefix : prefixN exNs ⟨#[99]⟩ = 2 := by unfold prefixN; rw [ex_place2]; simp [exNs, leastM, preB, nth, rdOf, Lib.hasPrefix]
theorem ex_rises : dict_rises.f 3 exNs = some true := by simp [dict_rises.f, dict_rises.l0, exNs, rdOf, toListD, Op.bytesLess, wrap64]

set_option maxHeartbeats 1000000 in
set_option maxRecDepth 100000 in
theorem lives_any (w : World) : Calls Try.prog 12 #[] w fun e w' => e = .returned (.bool true) ∧ Below w.heap.size w w' := by
  go_enter Try.func12, Try.ntmps12
  go_wp2_with fail
  have hb1 : Below w.heap.size w ((w.alloc (.cells #[.string ⟨#[97]⟩, .string ⟨#[99]⟩] 9)).alloc (.cells #[.int .i64 1, .int .i64 2] 3)) := ((Below.refl _ w).alloc (Nat.le_refl _) _).alloc (by simp) _
  have h0 : Kd.C Kd.string ((w.alloc (.cells #[.string ⟨#[97]⟩, .string ⟨#[99]⟩] 9)).alloc (.cells #[.int .i64 1, .int .i64 2] 3)) (some ⟨w.heap.size, 0, none⟩) exNs.length exNs := by
    refine Kd.C_of_reads (d := ByteArray.empty) ⟨rfl, by decide, fun _ => ⟨_, rfl, fun j hj => ?_⟩⟩
    have hj' : j < 2 := hj
    rw [add_none]
    obtain rfl | rfl : j = 0 ∨ j = 1 := by omega
    all_goals simp [go_sem, exNs]
  have h1 : Kd.C (Kd.int .i64) ((w.alloc (.cells #[.string ⟨#[97]⟩, .string ⟨#[99]⟩] 9)).alloc (.cells #[.int .i64 1, .int .i64 2] 3)) (some ⟨w.heap.size + 1, 0, none⟩) [(1 : Int), 2].length [(1 : Int), 2] := by
    refine Kd.C_of_reads (d := (0 : Int)) ⟨rfl, by decide, fun _ => ⟨_, rfl, fun j hj => ?_⟩⟩
    have hj' : j < 2 := hj
    rw [add_none]
    obtain rfl | rfl : j = 0 ∨ j = 1 := by omega
    all_goals simp [go_sem]
  generalize (w.alloc (.cells #[.string ⟨#[97]⟩, .string ⟨#[99]⟩] 9)).alloc (.cells #[.int .i64 1, .int .i64 2] 3) = w1 at *
  refine (make_ok _ _ 2 2 3 exNs [1, 2] w1 h0 h1 (by decide) rfl (by decide) ex_rises).mono ?_
  rintro e w2 ⟨g, rfl, hD, hb2⟩
  have hb3 := hb1.trans (hb2.mono hb1.size)
  clear h0 h1 hb1 hb2
  have hDD := hD.isD
  clear hD
  go_wp2_with fail
  refine (place_any g exNs [1, 2] ⟨#[98]⟩ w2 hDD (by decide)).mono ?_
  rintro e w3 ⟨rfl, hb4⟩
  rw [ex_place, ex_placeB]
  have hDE := hDD.below hb4
  have hb5 := hb3.trans (hb4.mono hb3.size)
  clear hDD hb4 hb3
  go_wp2_with fail
  refine (prefix_any g exNs [1, 2] ⟨#[99]⟩ w3 hDE (by decide)).mono ?_
  rintro e w4 ⟨rfl, hb6⟩
  rw [ex_place2, ex_prefix]
  have hDF := hDE.below hb6
  have hb7 := hb5.trans (hb6.mono hb5.size)
  clear hDE hb5 hb6
  have hLen : ∀ W, W = w4 → Calls Try.prog 22 #[.pointer (some ⟨g, 0, none⟩)] W fun e w' => e = .returned (.int .i64 2) ∧ w' = W := fun W e => by subst e; exact len_any g exNs [1, 2] W hDF
  go_wp2_with fail
  refine (hLen w4 rfl).mono ?_
  rintro e w5 ⟨rfl, rfl⟩
  go_wp2_with fail
  go_ret
  exact ⟨rfl, hb7⟩
end Go.Proofs.Ytlghcfhmfbdidaa
