/- Dictionaries: the document's place and prefix, as printed. No condition. -/
import Derived.Test.YtlghcfhmfbdidaaDictPlain
namespace Go.Proofs.Ytlghcfhmfbdidaa
open Go.RowKit Go.Proofs.Ytlghcfhmfbdidaa.PAll Go.Proofs.YtlghcfhmfbdidaaW.PrintWords Go.Proofs.YtlghcfhmfbdidaaW.PrintLast

theorem rplace_ev' {l : List ByteArray} (hu : Up l) (hl : l.length ≤ 1000000) (name : ByteArray) : Ev (fun k => concordanceref07_Place.f k l name) ((placeN l name : Int), placeB l name) := by
  have h := rplace_ev l name hl
  have e : placeB l name = (decide (plN l name < l.length) && ((nth l (plN l name)).toList == name.toList)) := by unfold placeB; rw [placeN_eq hu]
  rw [e, placeN_eq hu]
  exact h
theorem begins_f (x b : ByteArray) : concordanceref07_begins.f x b = some (pfx x b) := by
  unfold concordanceref07_begins.f pfx
  rw [← Lib.hasPrefix_raw]
  by_cases h : b.size ≤ x.size
  · rw [if_pos (by omega), if_pos (by omega), if_pos (by omega), decide_eq_true h, Bool.true_and, Int.toNat_natCast]
  · rw [if_neg (by omega), decide_eq_false h, Bool.false_and]
theorem rprefix_loop (l : List ByteArray) (b : ByteArray) (hl : l.length ≤ 1000000) (p : Int) : ∀ d i : Nat, i + d = l.length →
    Ev (fun k => concordanceref07_Prefix.l0 k l b p (i : Int)) (p, (run l b d i : Int))
  | 0, i, hi => by
    refine Ev.step (fun k => by rw [concordanceref07_Prefix.l0]) (Ev.neg (by omega) (Ev.ret ?_))
    rfl
  | d + 1, i, hi => by
    have ih := rprefix_loop l b hl p d (i + 1) (by omega)
    refine Ev.step (fun k => by rw [concordanceref07_Prefix.l0, wrap_small (i + 1) (by omega)]) ?_
    refine Ev.pos (by omega) (Ev.pos (by omega) ?_)
    refine Ev.const (begins_f (nth l i) b) ?_
    unfold run
    cases h : pfx (nth l i) b
    · rw [if_neg (by simp)]
      exact Ev.neg (by simp) (Ev.ret rfl)
    · rw [if_pos rfl]
      exact Ev.pos rfl (by exact_mod_cast ih)
theorem rprefix_ev {l : List ByteArray} (hu : Up l) (hl : l.length ≤ 1000000) (b : ByteArray) : Ev (fun k => concordanceref07_Prefix.f k l b) ((placeN l b : Int), (prefixN l b : Int)) := by
  unfold concordanceref07_Prefix.f
  refine Ev.bind (rplace_ev' hu hl b) ?_
  dsimp only
  have hp := (plN_spec l b).1
  rw [prefixN_eq hu, placeN_eq hu]
  exact rprefix_loop l b hl _ (l.length - plN l b) (plN l b) (by omega)
theorem findV_eq (l : List ByteArray) (name : ByteArray) : findV l (vals l.length) name = if placeB l name then (placeN l name : Int) + 10 else 0 := by
  unfold findV
  cases h : placeB l name
  · rfl
  · rw [if_pos rfl, if_pos rfl, vals_at _ _ (placeB_lt h)]
/-! ## names are short -/
def Short (l : List ByteArray) : Prop := ∀ x ∈ l, x.size ≤ 8
theorem Short.put {l : List ByteArray} (h : Short l) {name : ByteArray} (hn : name.size ≤ 8) : Short (putM l name) := by
  unfold putM
  split
  · exact h
  · intro x hx
    simp only [List.mem_append, List.mem_singleton] at hx
    rcases hx with (hx | hx) | hx
    · exact h x (List.mem_of_mem_take hx)
    · subst hx; exact hn
    · exact h x (List.mem_of_mem_drop hx)
theorem extract_size (x : ByteArray) (n : Nat) : (x.extract 0 n).size ≤ n := by
  rw [ByteArray.size_extract]; omega
theorem goodM_short (l : List ByteArray) (most : Nat) : ∀ i, Short (goodM l most i)
  | 0 => fun x hx => by unfold goodM at hx; simp at hx
  | i + 1 => by
    unfold goodM
    split
    · exact (goodM_short l most i).put (Nat.le_trans (extract_size _ _) (by omega))
    · exact goodM_short l most i
theorem goodL_short (l : List ByteArray) (i : Nat) (h : i < (goodL l).length) : (nth (goodL l) i).size ≤ 8 := by
  rw [nth_eq _ _ h]
  exact goodM_short _ _ _ _ (List.getElem_mem h)
end Go.Proofs.Ytlghcfhmfbdidaa
