import Derived.Test.YtllmhgkhamoplaaDoorRows
import Derived.Test.YtllmhgkhamoplaaDoorSignPlain
import Derived.WalkKit
import Derived.WalkSpells
import Derived.WalkLawsBesides
import Derived.Lib.OthersKept
import Derived.Maps.AppendAt
import Derived.Lib.Hide
namespace Go.Proofs.YtllmhgkhamoplaaDoor
open Go.RowKit

theorem infoInt : (Tryd.prog.info? 3).map (fun i => (i.zero, i.size, i.bytes)) = some (some (.int .i64 0), 1, 8) := by kernel_rfl

/-- A slice value that owns a row of ints, from block 'base' on. -/
def IntRow (base : Nat) (w : World) (v : Value) (l : List Int) : Prop := w.ownsRow base 3 1 v l.length (l.map (Value.int .i64))

theorem introw_iterAt {base k pos : Nat} {s : ByteArray} {w : World} {v : Value} {l : List Int} (h : IntRow base w v l) (hk : w.heap[k]? = some (.stringIter s pos)) (pos' : Nat) : IntRow base (w.iterAt k s pos') v l := by
  obtain ⟨h1, h2⟩ := h
  refine ⟨h1, ?_⟩
  rcases h2 with hn | ⟨g, cap, cur, hv, hb, hg, rest⟩
  · exact .inl hn
  · refine .inr ⟨g, cap, cur, hv, hb, ?_, rest⟩
    rw [Lib.iterAt_other _ _ _ _ _ (fun e => by rw [e, hk] at hg; cases hg)]
    exact hg

theorem iter_grown {base k pos : Nat} {s : ByteArray} {w w1 : World} {v : Value} {l : List Int} (h : IntRow base w v l) (hk : w.heap[k]? = some (.stringIter s pos)) (o : Obj) (hg : (w.alloc o).grownBy w1 v.ownBlock) : w1.heap[k]? = some (.stringIter s pos) := by
  have hlt : k < w.heap.size := (Array.getElem?_eq_some_iff.1 hk).1
  rw [hg.block k (by simp; omega) (fun e => ?_)]
  · rw [Below.heap_alloc _ _ _ hlt]; exact hk
  · rcases h.2 with ⟨rfl, _⟩ | ⟨g, cap, cur, hv, hb, hgg, rest⟩
    · simp [Value.ownBlock] at e
    · subst hv
      simp [Value.ownBlock] at e
      rw [← e, hk] at hgg
      cases hgg

set_option maxHeartbeats 1000000 in
set_option maxRecDepth 100000 in
theorem signs_any (s : ByteArray) (w : World) (hs : s.size ≤ 1000000000000) :
    Calls Tryd.prog 7 #[.string s] w fun e w' => ∃ v, e = .returned v ∧ IntRow w.heap.size w' v (signs s.data.toList) ∧ Below w.heap.size w w' := by
  obtain ⟨i0, hi, hz0, hz1, hz2⟩ := info_parts infoInt
  go_enter Tryd.func7, Tryd.ntmps7
  go_wp2
  go_loopw [3] (fun v wr => ∃ (pos : Nat) (acc : List Int), IntRow w.heap.size wr v acc ∧ wr.heap[w.heap.size]? = some (.stringIter s pos) ∧ Below w.heap.size w wr ∧ acc ++ signs (s.data.toList.drop pos) = signs s.data.toList ∧ acc.length ≤ pos ∧ pos ≤ s.size) (fun _ wr => s.size - wr.iterPos w.heap.size)
  case atStart =>
    refine ⟨0, [], World.ownsRow_nil _ _ _ _, World.iter_heap _ _ _, (Below.refl _ w).alloc (Nat.le_refl _) _, rfl, by simp, by omega⟩
  case round =>
    obtain ⟨pos, acc, hrow, hit, hbw, hacc, hal, hps⟩ := hrel
    have hsz : w.heap.size < wr.heap.size := (Array.getElem?_eq_some_iff.1 hit).1
    by_cases hp : pos < s.size
    · have hnx : ∀ ty, (Instr.next (.pointer (some ⟨w.heap.size, 0, none⟩)) true ty).run Tryd.prog wr = _ := fun ty => Lib.run_next_any_at wr w.heap.size s pos ty hit hp
      have hd1 := decode_le s pos
      have hdl : 0 < (s.data.toList.drop pos).length := by rw [List.length_drop, Array.length_toList]; have : s.data.size = s.size := rfl; omega
      have hwd := dec_width _ hdl
      rw [← decode_dec] at hwd
      have hstep := signs_step _ hdl
      rw [← decode_dec, List.drop_drop] at hstep
      have HS := Lib.hid hstep
      have HA := Lib.hid hacc
      have hle : pos + (Utf8.decode s pos).2 ≤ s.size := by rw [List.length_drop, Array.length_toList] at hwd; have : s.data.size = s.size := rfl; omega
      have hit2 := Lib.iterAt_heap wr w.heap.size s pos (pos + (Utf8.decode s pos).2) hit
      have hbw2 := Lib.below_iterAt hbw (k := w.heap.size) (by omega) s (pos + (Utf8.decode s pos).2)
      have hsz2 : w.heap.size < (wr.iterAt w.heap.size s (pos + (Utf8.decode s pos).2)).heap.size := by rw [Lib.iterAt_size]; omega
      have hrow2 := introw_iterAt hrow hit (pos + (Utf8.decode s pos).2)
      clear hstep hacc
      go_wp2_with (at_builtin; refine wpList_append_own _ rfl _ _ 23 rfl w.heap.size 3 i0 (.int .i64 0) 1 8 Tryd.underlying23 hi hz0 hz1 hz2 rfl (by decide) _ _ _ rfl (World.ownsRow.alloc hrow2 _) ⟨(wr.iterAt w.heap.size s (pos + (Utf8.decode s pos).2)).heap.size, 0, none⟩ 1 1 [.int .i64 ((Utf8.decode s pos).1 : Int)] rfl rfl ?c1 ?c2 ?c3 ?c4 ?c5 ?_)
      case c1 => exact cell_one_new _ _ _
      case c2 => simp [Value.oneCell']
      case c3 => unfold maxLen; omega
      case c4 => omega
      case c5 => simp; omega
      intro v' w1 hown' hgrow _
      have hit3 := iter_grown hrow2 hit2 _ hgrow
      have hbw3 : Below w.heap.size w w1 := (hbw2.alloc (by omega) _).grown hgrow (by simp; omega) (fun k hk => (hrow2.lt k hk).1)
      clear hit2 hbw2 hrow2 hrow hbw hgrow
      go_wp2
      go_roundw
      case rel =>
        refine ⟨pos + (Utf8.decode s pos).2, acc ++ [((Utf8.decode s pos).1 : Int)], ?_, hit3, hbw3, ?_, by simp; omega, hle⟩
        · unfold IntRow; simpa using hown'
        · rw [← HA.out, HS.out, List.append_assoc]; rfl
      case measure =>
        simp only [World.iterPos, hit3, hit]
        omega
    · have hnx : ∀ ty, (Instr.next (.pointer (some ⟨w.heap.size, 0, none⟩)) true ty).run Tryd.prog wr = _ := fun ty => Lib.run_next_end_at wr w.heap.size s pos ty hit hp
      go_wp2
      go_ret
      have e : s.data.toList.drop pos = [] := List.drop_eq_nil_of_le (by rw [Array.length_toList]; have : s.data.size = s.size := rfl; omega)
      rw [e, signs_nil, List.append_nil] at hacc
      subst hacc
      exact ⟨_, rfl, hrow, hbw⟩
end Go.Proofs.YtllmhgkhamoplaaDoor
