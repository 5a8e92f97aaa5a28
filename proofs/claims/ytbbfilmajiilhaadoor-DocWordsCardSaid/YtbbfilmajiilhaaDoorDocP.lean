/- The document's Name, Tokens, May, Words, Good: what they tell. Condition: few bytes. -/
import Derived.Test.YtbbfilmajiilhaaDoorWordRefs
import Derived.Test.YtbbfilmajiilhaaDoorBnd0
import Derived.Test.YtbbfilmajiilhaaDoorPAllx2
import Derived.Test.YtbbfilmajiilhaaDoorPAllx5
import Derived.Test.YtbbfilmajiilhaaDoorPAllx7
set_option linter.unusedVariables false
set_option linter.unusedSimpArgs false
namespace Go.Proofs.YtbbfilmajiilhaaDoor
open Go.RowKit Go.Proofs.YtbbfilmajiilhaaDoor.PAll Go.Proofs.YtbbfilmajiilhaaDoorW.PrintWords Go.Proofs.YtbbfilmajiilhaaDoorW.PrintLast

abbrev Fd := S24

theorem rdF_nat (l : List Fd) (i : Nat) (h : i < l.length) : rd_T24 l (i : Int) = l[i] := by unfold rd_T24; rw [Int.toNat_natCast, List.getD_eq_getElem?_getD, List.getElem?_eq_getElem h]; rfl
theorem wrap_nat (n : Nat) (h : n + 1 ≤ 9223372036854775807) : wrap64 ((n : Int) + 1) = ((n + 1 : Nat) : Int) := by rw [wrap_small _ (by omega)]; push_cast; rfl

/-! ### Name -/
def lowB (c : UInt8) : Bool := decide (97 ≤ c.toNat) && decide (c.toNat ≤ 122)

def nameB (s : ByteArray) : Bool := s.data.toList.all lowB && (decide (1 ≤ s.size) && decide (s.size ≤ 12))

/-! ### Tokens: either an error, or as many as words -/

/-! ### May: an error, or it is nice -/
def Nice (l : List Fd) : Prop := (∀ f ∈ l, nameB f.f0 = true) ∧ l.Pairwise (fun f g => f.f0 ≠ g.f0)
def Small (l : List Fd) : Prop := ∀ f ∈ l, f.f0.size ≤ 9223372036854775807 ∧ f.f1.size ≤ 40
theorem bytes_ne {a b : ByteArray} : a.toList = b.toList ↔ a = b := bytes_ext a b

end Go.Proofs.YtbbfilmajiilhaaDoor
