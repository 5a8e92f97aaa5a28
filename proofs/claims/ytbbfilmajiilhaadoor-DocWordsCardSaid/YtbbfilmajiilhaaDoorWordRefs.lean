import Derived.Test.YtbbfilmajiilhaaDoorWordPlain
import Derived.Test.YtbbfilmajiilhaaDoorRefs
import Derived.Test.YtbbfilmajiilhaaDoorPAllx5
/-! The document's words, as printed: what they tell. -/
set_option linter.unusedVariables false
set_option linter.unusedSimpArgs false
namespace Go.Proofs.YtbbfilmajiilhaaDoor
open Go.RowKit Go.Proofs.YtbbfilmajiilhaaDoor.PAll Go.Proofs.YtbbfilmajiilhaaDoorW.PrintWords Go.Proofs.YtbbfilmajiilhaaDoorW.PrintLast

theorem Ev.const {α β : Type} {o : Option α} {a : α} {f : Nat → α → Option β} {r : β} (h : o = some a) (k : Ev (fun n => f n a) r) : Ev (fun n => o.bind (f n)) r := by subst h; exact k

theorem rdS_nat (l : List ByteArray) (i : Nat) (h : i < l.length) : rdOf ByteArray.empty l i = l[i] := by unfold rdOf; simp; rw [List.getElem?_eq_getElem h]; rfl

def rest (outs : List ByteArray) (own l : List Int) : List ByteArray := (stepW (l.foldl stepW (outs, own)) 32).1

end Go.Proofs.YtbbfilmajiilhaaDoor
