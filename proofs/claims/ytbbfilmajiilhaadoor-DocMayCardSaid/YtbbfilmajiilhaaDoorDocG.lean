/- The document's Good, Words: what they tell. Condition: names of few bytes. -/
import Derived.Test.YtbbfilmajiilhaaDoorDocP
set_option linter.unusedVariables false
set_option linter.unusedSimpArgs false
namespace Go.Proofs.YtbbfilmajiilhaaDoor
open Go.RowKit Go.Proofs.YtbbfilmajiilhaaDoor.PAll Go.Proofs.YtbbfilmajiilhaaDoorW.PrintWords Go.Proofs.YtbbfilmajiilhaaDoorW.PrintLast

def pool : List ByteArray := [⟨#[116]⟩, ⟨#[117]⟩, ⟨#[118]⟩, ⟨#[119]⟩]
/-- A field as it is taken over. -/
def fixF (i : Nat) (f : Fd) : Fd := ⟨if nameB f.f0 = true then f.f0 else rdOf ByteArray.empty pool (i : Int), f.f1.extract 0 ((mn ((f.f1).size : Int) 40 : Int)).toNat⟩
def fixes (l : List Fd) : List Fd := l.zipIdx.map (fun x => fixF x.2 x.1)
theorem fixes_len (l : List Fd) : (fixes l).length = l.length := by simp [fixes]
theorem fixes_take (l : List Fd) (i : Nat) (h : i < l.length) : (fixes l).take (i + 1) = (fixes l).take i ++ [fixF i l[i]] := by
  rw [List.take_succ_eq_append_getElem (by rw [fixes_len]; exact h)]
  simp [fixes]
theorem mn_40 (n : Nat) : mn (n : Int) 40 = ((min n 40 : Nat) : Int) := by unfold mn; split <;> omega
theorem fix_size (i : Nat) (f : Fd) (hi : i < 4) (hf : f.f0.size ≤ 9223372036854775807) : (fixF i f).f0.size ≤ 9223372036854775807 ∧ (fixF i f).f1.size ≤ 40 := by
  constructor
  · show (if nameB f.f0 = true then f.f0 else rdOf ByteArray.empty pool (i : Int)).size ≤ _
    split
    · exact hf
    · have : i = 0 ∨ i = 1 ∨ i = 2 ∨ i = 3 := by omega
      rcases this with rfl | rfl | rfl | rfl <;> decide
  · show (f.f1.extract 0 _).size ≤ 40
    rw [mn_40, Int.toNat_natCast]
    simp [ByteArray.size_extract]
    omega
structure Fine (l out : List Fd) : Prop where
  nice : Nice out
  sub : out.Sublist (fixes l)
  small : Small out
  few : out.length ≤ 4

end Go.Proofs.YtbbfilmajiilhaaDoor
