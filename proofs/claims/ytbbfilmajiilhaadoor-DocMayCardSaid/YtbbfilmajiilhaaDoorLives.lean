/- The document's example, plain. No condition. -/
import Derived.Test.YtbbfilmajiilhaaDoorDocH
set_option linter.unusedVariables false
set_option linter.unusedSimpArgs false
namespace Go.Proofs.YtbbfilmajiilhaaDoor
open Go.RowKit Go.Proofs.YtbbfilmajiilhaaDoor.PAll Go.Proofs.YtbbfilmajiilhaaDoorW.PrintWords Go.Proofs.YtbbfilmajiilhaaDoorW.PrintLast

def exD : List Fd := [⟨⟨#[116]⟩, ⟨#[98, 32, 97, 32, 98]⟩⟩]
theorem ex_words : wordsT (⟨#[98, 32, 97, 32, 98]⟩ : ByteArray) = [⟨#[98]⟩, ⟨#[97]⟩, ⟨#[98]⟩] := by decide +kernel
theorem ex_occ : occ exD = [(⟨#[116]⟩, ⟨#[98]⟩, 0), (⟨#[116]⟩, ⟨#[97]⟩, 1), (⟨#[116]⟩, ⟨#[98]⟩, 2)] := by
  unfold occ exD
  rw [List.flatMap_cons, ex_words]
  rfl
theorem ex_terms : termsOf (occ exD) = [(⟨#[116]⟩, ⟨#[97]⟩), (⟨#[116]⟩, ⟨#[98]⟩)] := by rw [ex_occ]; decide +kernel
theorem ex_places : (termsOf (occ exD)).map (placesIn (occ exD)) = [[1], [0, 2]] := by rw [ex_terms, ex_occ]; decide +kernel
theorem ex_ok : docOk exD ∧ namesOk exD := by decide +kernel
theorem ex_invert : doc_Invert.f 0 exD = some ([⟨⟨#[116]⟩, ⟨#[97]⟩⟩, ⟨⟨#[116]⟩, ⟨#[98]⟩⟩], [[1], [0, 2]]) := by
  unfold doc_Invert.f
  rw [if_pos ex_ok, ex_places, ex_terms]
  rfl
theorem ex_phr : phrD exD ⟨#[116]⟩ [⟨#[98]⟩, ⟨#[97]⟩] = 1 := by
  unfold phrD exD
  rw [List.map_cons, ex_words]
  decide +kernel
theorem lives_ev : Ev (fun k => concordancelaw08_lives.f k) true := by
  unfold concordancelaw08_lives.f
  refine Ev.const (a := exD) rfl ?_
  refine Ev.const ex_invert ?_
  refine Ev.pos rfl <| Ev.pos rfl <| Ev.pos (by decide) <| Ev.pos (by rw [ByteArray.toList_eq]; rfl) <| Ev.pos (by decide) <| Ev.pos (by rw [ByteArray.toList_eq]; rfl) <| Ev.pos (by decide) <| Ev.pos rfl <| Ev.pos (by decide) <| Ev.pos rfl ?_
  have := phrD_ev 0 exD ⟨#[116]⟩ [⟨#[98]⟩, ⟨#[97]⟩] ex_ok.1 (by decide)
  rw [ex_phr] at this
  exact Ev.bind this (Ev.ret rfl)
end Go.Proofs.YtbbfilmajiilhaaDoor
