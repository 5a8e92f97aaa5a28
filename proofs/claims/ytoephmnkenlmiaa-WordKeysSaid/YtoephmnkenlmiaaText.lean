import Derived.Test.YtoephmnkenlmiaaBuilder
import Derived.Test.YtoephmnkenlmiaaSignPlain
import Derived.Test.YtoephmnkenlmiaaPAllx0
import Derived.Lib.Hide
/-! sign.sign, sign.Text: the text of characters. -/
namespace Go.Proofs.Ytoephmnkenlmiaa
open Go.RowKit Go.Proofs.YtoephmnkenlmiaaW.PrintWords

set_option maxHeartbeats 1000000 in
/-- sign.sign: some rune that has the same text. -/
theorem sign_any (c : Int) (w : World) :
    Calls Try.prog 37 #[.int .i64 c] w fun e w' => e = .returned (.int .i32 (good c)) ∧ w = w' := by
  by_cases h : c < 0
  · have e : good c = 65533 := if_neg (by unfold okChar; omega)
    go_enter Try.func37, Try.ntmps37
    go_wp2_with fail
    go_ret
    exact ⟨by first | rfl | (rw [e]; rfl), rfl⟩
  · by_cases h2 : c > 1114111
    · have e : good c = 65533 := if_neg (by unfold okChar; omega)
      go_enter Try.func37, Try.ntmps37
      go_wp2_with fail
      go_ret
      exact ⟨by first | rfl | (rw [e]; rfl), rfl⟩
    · by_cases hk : okChar c
      · have hv : Lib.validRune c = true := by unfold okChar at hk; unfold Lib.validRune; simp; omega
        have e : good c = c := good_of_ok hk
        go_enter Try.func37, Try.ntmps37
        go_wp2_with fail
        refine (Try.utf8_ValidRune _ _).mono ?_
        rintro e w' ⟨rfl, rfl⟩
        go_wp2_with fail
        go_ret
        exact ⟨by first | rfl | (rw [e]; rfl), rfl⟩
      · have hv : Lib.validRune c = false := by unfold okChar at hk; unfold Lib.validRune; simp; omega
        have e : good c = 65533 := if_neg hk
        go_enter Try.func37, Try.ntmps37
        go_wp2_with fail
        refine (Try.utf8_ValidRune _ _).mono ?_
        rintro e w' ⟨rfl, rfl⟩
        go_wp2_with fail
        go_ret
        exact ⟨by first | rfl | (rw [e]; rfl), rfl⟩

theorem good_range (c : Int) : 0 ≤ good c ∧ good c ≤ 1114111 := by
  have := good_ok c
  unfold okChar at this
  omega
theorem runeCells_good (c : Int) : Lib.runeCells (good c) = Lib.byteCells (Lib.encodeRune c) := by rw [← Lib.byteCells_encodeRune, encode_good]

set_option maxHeartbeats 2000000 in
set_option maxRecDepth 100000 in
theorem text_any (A0 : Option Addr) (c0 : Nat) (l : List Int) (w : World) (hr : Kd.C (Kd.int .i64) w A0 l.length l) (hl : l.length ≤ 1000000000000) :
    Calls Try.prog 29 #[.slice A0 l.length c0] w fun e w' => e = .returned (.string ⟨(text l).toArray⟩) ∧ Below w.heap.size w w' := by
  go_enter Try.func29, Try.ntmps29
  go_wp2_with fail
  go_loopw [8] (fun i wr => ∃ k : Nat, k ≤ l.length ∧ i = .int .i64 k ∧ Lib.IsBuilderF 55 5 w.heap.size w.heap.size (Lib.byteCells (text (l.take k))) wr ∧ Below w.heap.size w wr) (fun i _ => l.length - (intOf i).toNat)
  case atStart => exact ⟨0, by omega, rfl, Lib.IsBuilderF.of (Lib.fresh_isBuilder _ _ w), (Below.refl _ w).alloc (Nat.le_refl _) _⟩
  case round =>
    obtain ⟨k, hk, rfl, hI, hb⟩ := hrel
    by_cases hlt : k < l.length
    · obtain ⟨ad, rfl, hc⟩ := Kd.at_int (Kd.C_below hr hb) (k : Int) (by omega) (by omega)
      rw [Int.toNat_natCast] at hc
      have hg := good_range (rd l k)
      have htl := text_length (l.take k)
      have htk : (l.take k).length ≤ k := List.length_take_le _ _
      have HS := Lib.hid (show text (l.take (k + 1)) = text (l.take k) ++ Lib.encodeRune (rd l k) by
        rw [List.take_succ_eq_append_getElem hlt, text_append]
        have : rd l k = l[k] := by unfold rd; simp [hlt]
        rw [this]; simp [text])
      go_wp2_with fail
      refine (sign_any _ _).mono ?_
      rintro e w' ⟨rfl, rfl⟩
      go_wp2_with fail
      refine (writeRune_k w.heap.size w.heap.size _ (good (rd l k)) (by omega) (by omega) _ hI (by rw [Lib.byteCells_length]; omega) hb.size).mono ?_
      rintro e w1 ⟨rfl, h1, b1, -⟩
      go_wp2
      go_roundw
      case rel => exact ⟨k + 1, by omega, by go_num, Or.inr (by rw [HS.out, Lib.byteCells_append, ← runeCells_good]; exact h1), hb.trans b1⟩
      case measure => simp [intOf]; omega
    · obtain rfl : k = l.length := by omega
      go_wp2_with fail
      rw [List.take_length] at hI
      refine (Try.Builder_String_any_k w.heap.size w.heap.size _ _ hI hb.size).mono ?_
      rintro e w1 ⟨rfl, -, b1, -⟩
      go_wp2
      go_ret
      exact ⟨rfl, hb.trans b1⟩

def sign_Text.f (l0 : List Int) : Option ByteArray := if l0.length ≤ 1000000000000 then some ⟨(text l0).toArray⟩ else none
theorem sign_Text.calls (A0 : Option Addr) (c0 : Nat) (l0 : List Int) (r : ByteArray) (w : World) (hr0 : Kd.C (Kd.int .i64) w A0 l0.length l0) (_hc0 : l0.length ≤ c0) (h : sign_Text.f l0 = some r) :
    Calls Try.prog 29 #[.slice A0 l0.length c0] w fun e w' => e = .returned (.string r) ∧ Below w.heap.size w w' := by
  unfold sign_Text.f at h
  split at h
  · cases h
    exact text_any A0 c0 l0 w hr0 (by assumption)
  · cases h
end Go.Proofs.Ytoephmnkenlmiaa
