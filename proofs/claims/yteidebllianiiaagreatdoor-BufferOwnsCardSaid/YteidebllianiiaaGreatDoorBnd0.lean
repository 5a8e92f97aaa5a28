/- Joined: Kinds, Builder, SignPlain, Text, Signs, SignsE, Words, WordsM, Moves, Entry, Each, Groups, KeysIt, Collect, Sorted, InvP, SortRow, Told, Docs, Invert, InvertW, InvertC. -/
import Derived.Test.YteidebllianiiaaGreatDoorRows
import Derived.WalkKit
import Derived.WalkSpells
import Derived.WalkLawsBesides
import Derived.Test.YteidebllianiiaaGreatDoorShelf
import Derived.Shelf.Strings.BuilderRune
import Derived.Lib.DecodeN
import Derived.Lib.RuneBytes
import Derived.Test.YteidebllianiiaaGreatDoorPAllx0
import Derived.Lib.Hide
import Derived.Lib.OthersKept
import Derived.Maps.AppendAt
import Derived.RangeFuncBox
import Derived.Deep.RegionHeld3
import Derived.Outline
import Derived.Deep.DeepFit
import Derived.WideKeyEntry
import Derived.Maps.Own
import Derived.DeepKeys4
import Derived.Shelf.AbstractIn
import Derived.Shelf.Abstract
import Derived.RangeFuncSeq
import Derived.Sort.MapsRangeIn
import Derived.Sort.KeysCollected
import Derived.RangeFuncNested
import Derived.RangeFuncBound
import Derived.RangeFuncLeaves
import Derived.RangeFuncWrites
import Derived.OwnWalkIn
import Derived.TacticsInMore
import Derived.RegionIn
import Derived.LoopNIn
import Derived.LoopIn
import Derived.Sort.OwnSorted
import Derived.Sort.Grow
import Derived.Shelf.SlSortCmp.NoneTotal
import Derived.Deep.QuietTactic
import Derived.BigQuiet
import Derived.Test.YteidebllianiiaaGreatDoorPAllx1
import Derived.Test.YteidebllianiiaaGreatDoorWApart
set_option linter.unusedVariables false
set_option linter.unusedSimpArgs false
set_option linter.unusedVariables false
set_option linter.unusedSimpArgs false
namespace Go.Proofs.YteidebllianiiaaGreatDoor
open Go.RowKit

def letterB (c : Int) : Bool := decide ((97 ≤ c ∧ c ≤ 122) ∨ (65 ≤ c ∧ c ≤ 90) ∨ (192 ≤ c ∧ c ≤ 591 ∧ c ≠ 215 ∧ c ≠ 247))
def digitB (c : Int) : Bool := decide (48 ≤ c ∧ c ≤ 57)
def fold (c : Int) : Int := if (65 ≤ c ∧ c ≤ 90) ∨ (192 ≤ c ∧ c ≤ 222 ∧ c ≠ 215) then c + 32 else c

theorem ret_bool {a b : Bool} (h : a = b) : Ending.returned (.bool a) = .returned (.bool b) := by rw [h]
theorem ret_int {k : IntKind} {a b : Int} (h : a = b) : Ending.returned (.int k a) = .returned (.int k b) := by rw [h]

set_option maxHeartbeats 400000 in
theorem digit_any (c : Int) (w : World) :
    Calls Tryz.prog 80 #[.int .i64 c] w fun e w' => e = .returned (.bool (digitB c)) ∧ w = w' := by
  go_enter Tryz.func80, Tryz.ntmps80
  go_wp2
  all_goals
    go_ret
    exact ⟨ret_bool (by unfold digitB; rw [Bool.eq_iff_iff]; simp; try omega), rfl⟩
set_option maxHeartbeats 400000 in
theorem letter_any (c : Int) (w : World) :
    Calls Tryz.prog 79 #[.int .i64 c] w fun e w' => e = .returned (.bool (letterB c)) ∧ w = w' := by
  go_enter Tryz.func79, Tryz.ntmps79
  go_wp2
  all_goals
    go_ret
    exact ⟨ret_bool (by unfold letterB; rw [Bool.eq_iff_iff]; simp; try omega), rfl⟩
set_option maxHeartbeats 400000 in
theorem rletter_any (c : Int) (w : World) :
    Calls Tryz.prog 131 #[.int .i64 c] w fun e w' => e = .returned (.bool (letterB c)) ∧ w = w' := by
  go_enter Tryz.func131, Tryz.ntmps131
  go_wp2
  all_goals
    go_ret
    exact ⟨ret_bool (by unfold letterB; rw [Bool.eq_iff_iff]; simp; try omega), rfl⟩
set_option maxHeartbeats 400000 in
theorem fold_any (c : Int) (w : World) :
    Calls Tryz.prog 81 #[.int .i64 c] w fun e w' => e = .returned (.int .i64 (fold c)) ∧ w = w' := by
  by_cases h215 : c = 215
  · subst h215
    go_enter Tryz.func81, Tryz.ntmps81
    go_wp2
    go_ret
    exact ⟨ret_int (by decide), rfl⟩
  · have hb : (c != 215) = true := by simpa using h215
    go_enter Tryz.func81, Tryz.ntmps81
    go_wp2
    all_goals
      go_ret
      exact ⟨ret_int (by unfold fold; split <;> omega), rfl⟩

end Go.Proofs.YteidebllianiiaaGreatDoor

/-! (*strings.Builder).copyCheck, WriteRune: the shelf's contracts, at this translation's bodies (its copyCheck lacks the text's own panic). -/
set_option linter.unusedVariables false
set_option linter.unusedSimpArgs false
namespace Go.Proofs.YteidebllianiiaaGreatDoor
open Go.RowKit

theorem sizeBuilder : (Tryz.prog.info? 151).map (·.size) = some 2 := by kernel_rfl

set_option maxHeartbeats 1000000 in
set_option maxRecDepth 100000 in
theorem copyCheck_fresh (b : Nat) (w : World) (h0 : w.cell? ⟨b, 0, none⟩ = some (.pointer none)) (hsh : w.shape? b = some (151, 2)) (hfz : w.frozen? ⟨b, 0, none⟩ = false) :
    Calls Tryz.prog 132 #[.pointer (some ⟨b, 0, none⟩)] w fun e w' => e = .returned (.tuple #[]) ∧ w' = w.setCell ⟨b, 0, none⟩ (.pointer (some ⟨b, 0, none⟩)) := by
  obtain ⟨j, hj, hjs⟩ := Option.map_eq_some_iff.1 sizeBuilder
  go_enter Tryz.func132, Tryz.ntmps132
  go_wp2
  rw [Lib.run_to_unsafe w ⟨b, 0, none⟩ Tryz.underlying148 Tryz.underlying183 hj (by rw [hjs]; decide) hsh (Nat.zero_lt_succ 1)]
  simp only [Result.andThen]
  rw [Oper.upon_value]
  go_wp2
  rw [run_callFunc_extern Tryz.func142 (by kernel_rfl) (by kernel_rfl) (by kernel_rfl) (e := Extern.AbiNoEscape.same) (by kernel_rfl)]
  rw [Lib.run_noEscape]
  simp only [Result.andThen]
  rw [Oper.upon_value]
  go_wp2
  rw [Lib.run_from_unsafe w ⟨b, 0, none⟩ Tryz.underlying183 Tryz.underlying148 hj hsh (by kernel_rfl)]
  simp only [Result.andThen]
  rw [Oper.upon_value]
  go_wp2
  go_end0
  exact ⟨rfl, rfl⟩

set_option maxHeartbeats 1000000 in
set_option maxRecDepth 100000 in
theorem copyCheck_used (b : Nat) (w : World) (h0 : w.cell? ⟨b, 0, none⟩ = some (.pointer (some ⟨b, 0, none⟩))) :
    Calls Tryz.prog 132 #[.pointer (some ⟨b, 0, none⟩)] w fun e w' => e = .returned (.tuple #[]) ∧ w' = w := by
  obtain ⟨j, hj, _⟩ := Option.map_eq_some_iff.1 sizeBuilder
  go_enter Tryz.func132, Tryz.ntmps132
  go_wp2
  rw [Lib.run_neq_ptr_same w _ Tryz.underlying148 hj]
  go_wp2
  go_end0
  exact ⟨rfl, rfl⟩

theorem copyCheck_k (B b : Nat) (bs : List Value) (w : World) (h : Lib.IsBuilderF 151 5 B b bs w) :
    Calls Tryz.prog 132 #[.pointer (some ⟨b, 0, none⟩)] w fun e w' => e = .returned (.tuple #[]) ∧ (Lib.BuilderAtF 151 5 B b (.pointer (some ⟨b, 0, none⟩)) bs w' ∧ Below B w w' ∧ Lib.OthersKept 5 (some b) w w') := by
  rcases h with h | h
  · refine (copyCheck_fresh b w h.cell0 h.shape h.frozen0).mono ?_
    rintro e w' ⟨rfl, rfl⟩
    exact ⟨rfl, h.used _, (Below.refl B w).setCell (p := ⟨b, 0, none⟩) h.1 _, (Lib.OthersKept.refl _ _ w).setCell ⟨b, 0, none⟩ rfl _⟩
  · refine (copyCheck_used b w h.cell0).mono ?_
    rintro e w' ⟨rfl, rfl⟩
    exact ⟨rfl, h, Below.refl B _, Lib.OthersKept.refl _ _ _⟩

set_option maxHeartbeats 2000000 in
set_option maxRecDepth 100000 in
theorem writeRune_k (B b : Nat) (bs : List Value) (r : Int) (hr0 : -2147483648 ≤ r) (hr1 : r ≤ 2147483647) (w : World) (h : Lib.IsBuilderF 151 5 B b bs w) (hlen : bs.length + 4 ≤ 140737488355328) (hBw : B ≤ w.heap.size) :
    Calls Tryz.prog 109 #[.pointer (some ⟨b, 0, none⟩), .int .i32 r] w fun e w' => e = .returned (.tuple #[.int .i64 (Lib.runeCells r).length, .nilIface]) ∧ (Lib.BuilderAtF 151 5 B b (.pointer (some ⟨b, 0, none⟩)) (bs ++ Lib.runeCells r) w' ∧ Below B w w' ∧ Lib.OthersKept 5 (some b) w w') := by
  have hk4 := Lib.runeCells_le r
  go_enter Tryz.func109, Tryz.ntmps109
  go_wp2_with fail
  refine (copyCheck_k B b bs _ h).mono ?_
  rintro e w1 ⟨rfl, h1, hb1, hk1⟩
  obtain ⟨hB, v, hbk, hown, hne⟩ := h1
  obtain ⟨ao, cap, rfl⟩ : ∃ ao cap, v = .slice ao bs.length cap := by
    rcases hown.2 with ⟨hv, h0⟩ | ⟨g, cap, cur, fz, hv, _⟩
    · exact ⟨none, 0, by rw [hv, h0]⟩
    · exact ⟨_, _, hv⟩
  have c0 : w1.cell? ⟨b, 0, none⟩ = some (.pointer (some ⟨b, 0, none⟩)) := by rw [Lib.cell_of_heap hbk]; rfl
  have c1 : w1.cell? ⟨b, 1, none⟩ = some (.slice ao bs.length cap) := by rw [Lib.cell_of_heap hbk]; rfl
  go_wp2_with fail
  refine (Tryz.utf8_AppendRune_row B _ bs.length bs r hr0 hr1 _ hown hlen (by have := hb1.size; omega)).mono ?_
  rintro e w2 ⟨v', rfl, hown', o, hgrow⟩
  have hlt : b < w1.heap.size := by
    rcases Nat.lt_or_ge b w1.heap.size with h' | h'
    · exact h'
    · simp [Array.getElem?_eq_none h'] at hbk
  have hb2 : w2.heap[b]? = some (.cells #[.pointer (some ⟨b, 0, none⟩), .slice ao bs.length cap] 151 (0, 0)) := by
    rw [hgrow.block b (by simp; omega) (fun e => hne e.symm), Lib.alloc_old w1 _ b hlt]
    exact hbk
  have d0 : w2.cell? ⟨b, 0, none⟩ = some (.pointer (some ⟨b, 0, none⟩)) := by rw [Lib.cell_of_heap hb2]; rfl
  have d1 : w2.cell? ⟨b, 1, none⟩ = some (.slice ao bs.length cap) := by rw [Lib.cell_of_heap hb2]; rfl
  have f1 : w2.frozen? ⟨b, 1, none⟩ = false := Lib.frozen_of_heap hb2 1
  obtain ⟨g, cap', rfl⟩ : ∃ g cap', v' = .slice (some ⟨g, 0, none⟩) (bs.length + (Lib.runeCells r).length) cap' := by
    rcases hown'.2 with ⟨_, h0⟩ | ⟨g, cap', cur, fz, hv, _⟩
    · omega
    · exact ⟨g, cap', hv⟩
  go_wp2
  go_ret2
  refine ⟨?_, ?_, ?_, ((hk1.alloc _).grown hgrow (Lib.ownsRowF_kind (hown.alloc _))).setCell ⟨b, 1, none⟩ rfl _⟩
  · have e : ((bs.length : Int) + ((Lib.runeCells r).length : Int) - (bs.length : Int)) = ((Lib.runeCells r).length : Int) := by omega
    simp [e]
  · exact Lib.BuilderAtF.put (T := 151) (e := 5) hB hb2 (bs' := bs ++ Lib.runeCells r) (by simpa using hown') (by decide)
  · exact ((hb1.alloc (by have := hb1.size; omega) _).grown hgrow (by have := hb1.size; simp; omega) (fun k hk => (hown.lt k hk).1)).setCell (p := ⟨b, 1, none⟩) hB _
end Go.Proofs.YteidebllianiiaaGreatDoor

set_option linter.unusedVariables false
set_option linter.unusedSimpArgs false
namespace Go.Proofs.YteidebllianiiaaGreatDoor
/-! The signs of bytes, and the text of characters: plain lists. -/
def byt (l : List UInt8) (i : Nat) : Nat := (l.getD i 0).toNat
def dec (l : List UInt8) : Nat × Nat := Lib.decodeN l.length (byt l 0) (byt l 1) (byt l 2) (byt l 3)
def signsF : Nat → List UInt8 → List Int
  | 0, _ => []
  | f + 1, l => if l.length = 0 then [] else ((dec l).1 : Int) :: signsF f (l.drop (dec l).2)
def signs (l : List UInt8) : List Int := signsF l.length l
def text (l : List Int) : List UInt8 := l.flatMap Lib.encodeRune

theorem byt_lt (l : List UInt8) (i : Nat) : byt l i < 256 := UInt8.toNat_lt _

set_option maxHeartbeats 1000000 in
theorem dec_width (l : List UInt8) (h : 0 < l.length) : 1 ≤ (dec l).2 ∧ (dec l).2 ≤ l.length ∧ (dec l).2 ≤ 4 := by
  have h0 := byt_lt l 0; have h1 := byt_lt l 1; have h2 := byt_lt l 2; have h3 := byt_lt l 3
  unfold dec Lib.decodeN
  repeat' split
  all_goals (dsimp only; omega)

/-- What is decoded is a character. -/
def okChar (c : Int) : Prop := (0 ≤ c ∧ c < 55296) ∨ (57344 ≤ c ∧ c ≤ 1114111)
instance (c : Int) : Decidable (okChar c) := by unfold okChar; infer_instance

theorem signsF_more : ∀ (f g : Nat) (l : List UInt8), l.length ≤ f → l.length ≤ g → signsF f l = signsF g l
  | 0, 0, _, _, _ => rfl
  | 0, g + 1, l, hf, _ => by simp [signsF, show l.length = 0 by omega]
  | f + 1, 0, l, _, hg => by simp [signsF, show l.length = 0 by omega]
  | f + 1, g + 1, l, hf, hg => by
    simp only [signsF]
    by_cases h : l.length = 0
    · simp [h]
    · have hw := dec_width l (by omega)
      rw [if_neg h, if_neg h, signsF_more f g (l.drop (dec l).2) (by rw [List.length_drop]; omega) (by rw [List.length_drop]; omega)]

theorem signs_nil : signs [] = [] := rfl
theorem signs_step (l : List UInt8) (h : 0 < l.length) : signs l = ((dec l).1 : Int) :: signs (l.drop (dec l).2) := by
  have hw := dec_width l h
  unfold signs
  obtain ⟨n, hn⟩ : ∃ n, l.length = n + 1 := ⟨l.length - 1, by omega⟩
  rw [hn]
  simp only [signsF]
  rw [if_neg (by omega), signsF_more n (l.drop (dec l).2).length (l.drop (dec l).2) (by rw [List.length_drop]; omega) (Nat.le_refl _)]

theorem signsF_length : ∀ (f : Nat) (l : List UInt8), (signsF f l).length ≤ l.length
  | 0, _ => by simp [signsF]
  | f + 1, l => by
    simp only [signsF]
    split
    · simp
    · rename_i h
      have hw := dec_width l (by omega)
      have := signsF_length f (l.drop (dec l).2)
      rw [List.length_drop] at this
      simp; omega
theorem signs_length (l : List UInt8) : (signs l).length ≤ l.length := signsF_length _ _

/-- The model's own decoding, by places. -/
theorem get_drop (s : ByteArray) (i k : Nat) : (s.get! (i + k)).toNat = byt (s.data.toList.drop i) k := by
  unfold byt
  congr 1
  rw [List.getD_eq_getElem?_getD, List.getElem?_drop]
  show s.data[i + k]! = _
  rw [getElem!_def, Array.getElem?_toList]
  cases s.data[i + k]? <;> rfl
theorem decode_dec (s : ByteArray) (i : Nat) : Utf8.decode s i = dec (s.data.toList.drop i) := by
  rw [Lib.decode_at]
  unfold dec
  rw [← get_drop s i 0, ← get_drop s i 1, ← get_drop s i 2, ← get_drop s i 3]
  simp

/-- A character that may be; 65533 in place of another one. -/
def good (c : Int) : Int := if okChar c then c else 65533
theorem good_ok (c : Int) : okChar (good c) := by
  unfold good; split
  · assumption
  · unfold okChar; omega
theorem good_of_ok {c : Int} (h : okChar c) : good c = c := if_pos h

theorem toU8 (x : Int) (h0 : 0 ≤ x) (h1 : x < 256) : x.toNat.toUInt8.toNat = x.toNat := by
  rw [Nat.toUInt8, UInt8.toNat_ofNat']; omega

theorem encode_le (c : Int) : (Lib.encodeRune c).length ≤ 4 := by have := Lib.encodeRuneZ_length c; simp [Lib.encodeRune]; omega

theorem text_cons (c : Int) (l : List Int) : text (c :: l) = Lib.encodeRune c ++ text l := rfl

theorem encode_good (c : Int) : Lib.encodeRune (good c) = Lib.encodeRune c := by
  unfold good
  split
  · rfl
  · rename_i h
    unfold okChar at h
    unfold Lib.encodeRune
    rw [Lib.encodeRuneZ_bad (r := c) (by omega)]
    rfl

theorem text_append (a b : List Int) : text (a ++ b) = text a ++ text b := List.flatMap_append
theorem text_length (l : List Int) : (text l).length ≤ 4 * l.length := by
  induction l with
  | nil => simp [text]
  | cons c l ih => rw [text_cons, List.length_append, List.length_cons]; have := encode_le c; omega
end Go.Proofs.YteidebllianiiaaGreatDoor

/-! sign.sign, sign.Text: the text of characters. -/
set_option linter.unusedVariables false
set_option linter.unusedSimpArgs false
namespace Go.Proofs.YteidebllianiiaaGreatDoor
open Go.RowKit Go.Proofs.YteidebllianiiaaGreatDoorW.PrintWords

set_option maxHeartbeats 1000000 in
/-- sign.sign: some rune that has the same text. -/
theorem sign_any (c : Int) (w : World) :
    Calls Tryz.prog 110 #[.int .i64 c] w fun e w' => e = .returned (.int .i32 (good c)) ∧ w = w' := by
  by_cases h : c < 0
  · have e : good c = 65533 := if_neg (by unfold okChar; omega)
    go_enter Tryz.func110, Tryz.ntmps110
    go_wp2_with fail
    go_ret
    exact ⟨by first | rfl | (rw [e]; rfl), rfl⟩
  · by_cases h2 : c > 1114111
    · have e : good c = 65533 := if_neg (by unfold okChar; omega)
      go_enter Tryz.func110, Tryz.ntmps110
      go_wp2_with fail
      go_ret
      exact ⟨by first | rfl | (rw [e]; rfl), rfl⟩
    · by_cases hk : okChar c
      · have hv : Lib.validRune c = true := by unfold okChar at hk; unfold Lib.validRune; simp; omega
        have e : good c = c := good_of_ok hk
        go_enter Tryz.func110, Tryz.ntmps110
        go_wp2_with fail
        refine (Tryz.utf8_ValidRune _ _).mono ?_
        rintro e w' ⟨rfl, rfl⟩
        go_wp2_with fail
        go_ret
        exact ⟨by first | rfl | (rw [e]; rfl), rfl⟩
      · have hv : Lib.validRune c = false := by unfold okChar at hk; unfold Lib.validRune; simp; omega
        have e : good c = 65533 := if_neg hk
        go_enter Tryz.func110, Tryz.ntmps110
        go_wp2_with fail
        refine (Tryz.utf8_ValidRune _ _).mono ?_
        rintro e w' ⟨rfl, rfl⟩
        go_wp2_with fail
        go_ret
        exact ⟨by first | rfl | (rw [e]; rfl), rfl⟩

theorem good_range (c : Int) : 0 ≤ good c ∧ good c ≤ 1114111 := by
  have := good_ok c
  unfold okChar at this
  omega
theorem runeCells_good (c : Int) : Lib.runeCells (good c) = Lib.byteCells (Lib.encodeRune c) := by rw [← Lib.byteCells_encodeRune, encode_good]

set_option maxHeartbeats 2000000 in
set_option maxRecDepth 100000 in
theorem text_any (A0 : Option Addr) (c0 : Nat) (l : List Int) (w : World) (hr : Kd.C (Kd.int .i64) w A0 l.length l) (hl : l.length ≤ 1000000000000) :
    Calls Tryz.prog 82 #[.slice A0 l.length c0] w fun e w' => e = .returned (.string ⟨(text l).toArray⟩) ∧ Below w.heap.size w w' := by
  go_enter Tryz.func82, Tryz.ntmps82
  go_wp2_with fail
  go_loopw [8] (fun i wr => ∃ k : Nat, k ≤ l.length ∧ i = .int .i64 k ∧ Lib.IsBuilderF 151 5 w.heap.size w.heap.size (Lib.byteCells (text (l.take k))) wr ∧ Below w.heap.size w wr) (fun i _ => l.length - (intOf i).toNat)
  case atStart => exact ⟨0, by omega, rfl, Lib.IsBuilderF.of (Lib.fresh_isBuilder _ _ w), (Below.refl _ w).alloc (Nat.le_refl _) _⟩
  case round =>
    obtain ⟨k, hk, rfl, hI, hb⟩ := hrel
    by_cases hlt : k < l.length
    · obtain ⟨ad, rfl, hc⟩ := Kd.at_int (Kd.C_below hr hb) (k : Int) (by omega) (by omega)
      rw [Int.toNat_natCast] at hc
      have hg := good_range (rd l k)
      have htl := text_length (l.take k)
      have htk : (l.take k).length ≤ k := List.length_take_le _ _
      have HS := Lib.hid (show text (l.take (k + 1)) = text (l.take k) ++ Lib.encodeRune (rd l k) by
        rw [List.take_succ_eq_append_getElem hlt, text_append]
        have : rd l k = l[k] := by unfold rd; simp [hlt]
        rw [this]; simp [text])
      go_wp2_with fail
      refine (sign_any _ _).mono ?_
      rintro e w' ⟨rfl, rfl⟩
      go_wp2_with fail
      refine (writeRune_k w.heap.size w.heap.size _ (good (rd l k)) (by omega) (by omega) _ hI (by rw [Lib.byteCells_length]; omega) hb.size).mono ?_
      rintro e w1 ⟨rfl, h1, b1, -⟩
      go_wp2
      go_roundw
      case rel => exact ⟨k + 1, by omega, by go_num, Or.inr (by rw [HS.out, Lib.byteCells_append, ← runeCells_good]; exact h1), hb.trans b1⟩
      case measure => simp [intOf]; omega
    · obtain rfl : k = l.length := by omega
      go_wp2_with fail
      rw [List.take_length] at hI
      refine (Tryz.Builder_String_any_k w.heap.size w.heap.size _ _ hI hb.size).mono ?_
      rintro e w1 ⟨rfl, -, b1, -⟩
      go_wp2
      go_ret
      exact ⟨rfl, hb.trans b1⟩

def sign_Text.f (l0 : List Int) : Option ByteArray := if l0.length ≤ 1000000000000 then some ⟨(text l0).toArray⟩ else none

end Go.Proofs.YteidebllianiiaaGreatDoor

set_option linter.unusedVariables false
set_option linter.unusedSimpArgs false
namespace Go.Proofs.YteidebllianiiaaGreatDoor
open Go.RowKit

theorem infoInt : (Tryz.prog.info? 3).map (fun i => (i.zero, i.size, i.bytes)) = some (some (.int .i64 0), 1, 8) := by kernel_rfl

/-- A slice value that owns a row of ints, from block 'base' on. -/
def IntRow (base : Nat) (w : World) (v : Value) (l : List Int) : Prop := w.ownsRow base 3 1 v l.length (l.map (Value.int .i64))

theorem introw_iterAt {base k pos : Nat} {s : ByteArray} {w : World} {v : Value} {l : List Int} (h : IntRow base w v l) (hk : w.heap[k]? = some (.stringIter s pos)) (pos' : Nat) : IntRow base (w.iterAt k s pos') v l := by
  obtain ⟨h1, h2⟩ := h
  refine ⟨h1, ?_⟩
  rcases h2 with hn | ⟨g, cap, cur, hv, hb, hg, rest⟩
  · exact .inl hn
  · refine .inr ⟨g, cap, cur, hv, hb, ?_, rest⟩
    rw [Lib.iterAt_other _ _ _ _ _ (fun e => by rw [e, hk] at hg; cases hg)]
    exact hg

theorem iter_grown {base k pos : Nat} {s : ByteArray} {w w1 : World} {v : Value} {l : List Int} (h : IntRow base w v l) (hk : w.heap[k]? = some (.stringIter s pos)) (o : Obj) (hg : (w.alloc o).grownBy w1 v.ownBlock) : w1.heap[k]? = some (.stringIter s pos) := by
  have hlt : k < w.heap.size := (Array.getElem?_eq_some_iff.1 hk).1
  rw [hg.block k (by simp; omega) (fun e => ?_)]
  · rw [Below.heap_alloc _ _ _ hlt]; exact hk
  · rcases h.2 with ⟨rfl, _⟩ | ⟨g, cap, cur, hv, hb, hgg, rest⟩
    · simp [Value.ownBlock] at e
    · subst hv
      simp [Value.ownBlock] at e
      rw [← e, hk] at hgg
      cases hgg

set_option maxHeartbeats 1000000 in
set_option maxRecDepth 100000 in
theorem signs_any (s : ByteArray) (w : World) (hs : s.size ≤ 1000000000000) :
    Calls Tryz.prog 83 #[.string s] w fun e w' => ∃ v, e = .returned v ∧ IntRow w.heap.size w' v (signs s.data.toList) ∧ Below w.heap.size w w' := by
  obtain ⟨i0, hi, hz0, hz1, hz2⟩ := info_parts infoInt
  go_enter Tryz.func83, Tryz.ntmps83
  go_wp2
  go_loopw [3] (fun v wr => ∃ (pos : Nat) (acc : List Int), IntRow w.heap.size wr v acc ∧ wr.heap[w.heap.size]? = some (.stringIter s pos) ∧ Below w.heap.size w wr ∧ acc ++ signs (s.data.toList.drop pos) = signs s.data.toList ∧ acc.length ≤ pos ∧ pos ≤ s.size) (fun _ wr => s.size - wr.iterPos w.heap.size)
  case atStart =>
    refine ⟨0, [], World.ownsRow_nil _ _ _ _, World.iter_heap _ _ _, (Below.refl _ w).alloc (Nat.le_refl _) _, rfl, by simp, by omega⟩
  case round =>
    obtain ⟨pos, acc, hrow, hit, hbw, hacc, hal, hps⟩ := hrel
    have hsz : w.heap.size < wr.heap.size := (Array.getElem?_eq_some_iff.1 hit).1
    by_cases hp : pos < s.size
    · have hnx : ∀ ty, (Instr.next (.pointer (some ⟨w.heap.size, 0, none⟩)) true ty).run Tryz.prog wr = _ := fun ty => Lib.run_next_any_at wr w.heap.size s pos ty hit hp
      have hd1 := decode_le s pos
      have hdl : 0 < (s.data.toList.drop pos).length := by rw [List.length_drop, Array.length_toList]; have : s.data.size = s.size := rfl; omega
      have hwd := dec_width _ hdl
      rw [← decode_dec] at hwd
      have hstep := signs_step _ hdl
      rw [← decode_dec, List.drop_drop] at hstep
      have HS := Lib.hid hstep
      have HA := Lib.hid hacc
      have hle : pos + (Utf8.decode s pos).2 ≤ s.size := by rw [List.length_drop, Array.length_toList] at hwd; have : s.data.size = s.size := rfl; omega
      have hit2 := Lib.iterAt_heap wr w.heap.size s pos (pos + (Utf8.decode s pos).2) hit
      have hbw2 := Lib.below_iterAt hbw (k := w.heap.size) (by omega) s (pos + (Utf8.decode s pos).2)
      have hsz2 : w.heap.size < (wr.iterAt w.heap.size s (pos + (Utf8.decode s pos).2)).heap.size := by rw [Lib.iterAt_size]; omega
      have hrow2 := introw_iterAt hrow hit (pos + (Utf8.decode s pos).2)
      clear hstep hacc
      go_wp2_with (at_builtin; refine wpList_append_own _ rfl _ _ 39 rfl w.heap.size 3 i0 (.int .i64 0) 1 8 Tryz.underlying39 hi hz0 hz1 hz2 rfl (by decide) _ _ _ rfl (World.ownsRow.alloc hrow2 _) ⟨(wr.iterAt w.heap.size s (pos + (Utf8.decode s pos).2)).heap.size, 0, none⟩ 1 1 [.int .i64 ((Utf8.decode s pos).1 : Int)] rfl rfl ?c1 ?c2 ?c3 ?c4 ?c5 ?_)
      case c1 => exact cell_one_new _ _ _
      case c2 => simp [Value.oneCell']
      case c3 => unfold maxLen; omega
      case c4 => omega
      case c5 => simp; omega
      intro v' w1 hown' hgrow _
      have hit3 := iter_grown hrow2 hit2 _ hgrow
      have hbw3 : Below w.heap.size w w1 := (hbw2.alloc (by omega) _).grown hgrow (by simp; omega) (fun k hk => (hrow2.lt k hk).1)
      clear hit2 hbw2 hrow2 hrow hbw hgrow
      go_wp2
      go_roundw
      case rel =>
        refine ⟨pos + (Utf8.decode s pos).2, acc ++ [((Utf8.decode s pos).1 : Int)], ?_, hit3, hbw3, ?_, by simp; omega, hle⟩
        · unfold IntRow; simpa using hown'
        · rw [← HA.out, HS.out, List.append_assoc]; rfl
      case measure =>
        simp only [World.iterPos, hit3, hit]
        omega
    · have hnx : ∀ ty, (Instr.next (.pointer (some ⟨w.heap.size, 0, none⟩)) true ty).run Tryz.prog wr = _ := fun ty => Lib.run_next_end_at wr w.heap.size s pos ty hit hp
      go_wp2
      go_ret
      have e : s.data.toList.drop pos = [] := List.drop_eq_nil_of_le (by rw [Array.length_toList]; have : s.data.size = s.size := rfl; omega)
      rw [e, signs_nil, List.append_nil] at hacc
      subst hacc
      exact ⟨_, rfl, hrow, hbw⟩
end Go.Proofs.YteidebllianiiaaGreatDoor

set_option linter.unusedVariables false
set_option linter.unusedSimpArgs false
namespace Go.Proofs.YteidebllianiiaaGreatDoor
open Go.RowKit Go.Proofs.YteidebllianiiaaGreatDoorW.PrintWords

def sign_Signs.f (a0 : ByteArray) : Option (List Int) := if a0.size ≤ 1000000000000 then some (signs a0.data.toList) else none
theorem sign_Signs.calls (a0 : ByteArray) (r : List Int) (w : World) (h : sign_Signs.f a0 = some r) :
    Calls Tryz.prog 83 #[.string a0] w fun e w' => ∃ v0_ : Value, e = .returned (v0_) ∧ Kd.R (Kd.int .i64) 3 w' w.heap.size (fun _ => True) v0_ r ∧ Below w.heap.size w w' := by
  unfold sign_Signs.f at h
  split at h
  · cases h
    refine (signs_any a0 w (by assumption)).mono ?_
    rintro e w' ⟨v, rfl, hrow, hb⟩
    exact ⟨v, rfl, Kd.R_of_own hrow (fun _ _ => trivial), hb⟩
  · cases h
end Go.Proofs.YteidebllianiiaaGreatDoor

/-! word.Words: a text's words. -/
set_option linter.unusedVariables false
set_option linter.unusedSimpArgs false
namespace Go.Proofs.YteidebllianiiaaGreatDoor
open Go.RowKit Go.Proofs.YteidebllianiiaaGreatDoorW.PrintWords Go.Proofs.YteidebllianiiaaGreatDoorW.PrintLast Go.Proofs.YteidebllianiiaaGreatDoorW.PrintMore

theorem infoStr : (Tryz.prog.info? 9).map (fun i => (i.zero, i.size, i.bytes)) = some (some (.string ⟨#[]⟩), 1, 16) := by kernel_rfl

def strOf (l : List Int) : ByteArray := ⟨(text l).toArray⟩
def inB (c : Int) : Bool := letterB c || digitB c
/-- One character more: the words that are whole, and the one that is not. -/
def stepW (st : List ByteArray × List Int) (c : Int) : List ByteArray × List Int :=
  if inB c then (st.1, st.2 ++ [fold c]) else (if 0 < st.2.length then st.1 ++ [strOf st.2] else st.1, [])

/-- The two boxes: the words, and the characters of the last one. -/
def TakeSt (base Bo Bw : Nat) (st : List ByteArray × List Int) (w : World) : Prop :=
  ∃ vo vw, Boxed w Bo 34 vo ∧ Boxed w Bw 39 vw ∧ Kd.R Kd.string 9 w base (fun _ => True) vo st.1 ∧ Kd.R (Kd.int .i64) 3 w base (fun _ => True) vw st.2

theorem rows_apart {α β : Type} {d : Kd α} {d2 : Kd β} {w : World} {base e f : Nat} {v u : Value} {xs : List α} {ys : List β} {ok ok2 : Nat → Prop} (h : d.R e w base ok v xs) (h2 : d2.R f w base ok2 u ys) (hne : e ≠ f) : ∀ k, u.ownBlock = some k → some k ≠ v.ownBlock := by
  obtain ⟨i1, h1⟩ := Kd.R_own h
  obtain ⟨i2, h3⟩ := Kd.R_own h2
  intro k hk hv
  rcases h1.2 with ⟨rfl, _⟩ | ⟨g, cap, cur, rfl, _, hgb, _⟩
  · simp [Value.ownBlock] at hv
  · rcases h3.2 with ⟨rfl, _⟩ | ⟨g2, cap2, cur2, rfl, _, hgb2, _⟩
    · simp [Value.ownBlock] at hk
    · have e1 : g = k := by simpa [Value.ownBlock] using hv.symm
      have e2 : g2 = k := by simpa [Value.ownBlock] using hk
      subst e1; subst e2
      rw [hgb] at hgb2
      simp at hgb2
      exact hne hgb2.2

/-- Whatever lies below N stays, one box apart. -/
def Keep1 (N B : Nat) (w w' : World) : Prop := Below 0 w w' ∧ ∀ k, k < N → k ≠ B → w'.heap[k]? = w.heap[k]?
/-- Whatever lies below N stays, the two boxes apart. -/
def Keep2 (N Bo Bw : Nat) (w w' : World) : Prop := Below 0 w w' ∧ ∀ k, k < N → k ≠ Bo → k ≠ Bw → w'.heap[k]? = w.heap[k]?
theorem Keep1.store {N B : Nat} {w w' : World} (h : Below N w w') (v : Value) : Keep1 N B w (w'.setCell ⟨B, 0, none⟩ v) :=
  ⟨(h.mono (Nat.zero_le _)).setCell (p := ⟨B, 0, none⟩) (Nat.zero_le _) v, fun k hk hB => (Below.heap_setCell w' ⟨B, 0, none⟩ v k hB).trans (h.block k hk)⟩
theorem Keep2.store {N B Bo Bw : Nat} {w w' : World} (h : Keep2 N Bo Bw w w') (v : Value) (hB : B = Bo ∨ B = Bw) : Keep2 N Bo Bw w (w'.setCell ⟨B, 0, none⟩ v) :=
  ⟨h.1.setCell (p := ⟨B, 0, none⟩) (Nat.zero_le _) v, fun k hk h1 h2 => (Below.heap_setCell w' ⟨B, 0, none⟩ v k (by rcases hB with rfl | rfl <;> assumption)).trans (h.2 k hk h1 h2)⟩
theorem Keep2.refl (N Bo Bw : Nat) (w : World) : Keep2 N Bo Bw w w := ⟨Below.refl _ _, fun _ _ _ _ => rfl⟩
theorem Keep2.trans {N Bo Bw : Nat} {w w' w2 : World} (h : Keep2 N Bo Bw w w') (k : Keep2 N Bo Bw w' w2) : Keep2 N Bo Bw w w2 := ⟨h.1.trans k.1, fun j a b c => (k.2 j a b c).trans (h.2 j a b c)⟩

/-- Behind an append to one row, and the store into its box. -/
theorem box_stored {α β : Type} {d : Kd α} {d2 : Kd β} {w W w1 : World} {base e f B B2 t t2 : Nat} {v u v1 : Value} {xs xs1 : List α} {ys : List β} (hE : d.E = []) (hE2 : d2.E = [])
    (hB : Boxed W B t v) (hB2 : Boxed W B2 t2 u) (hR : d.R e W base (fun _ => True) v xs) (hR2 : d2.R f W base (fun _ => True) u ys) (hne : f ≠ e) (h1 : e ≠ t) (h2 : e ≠ t2) (h3 : f ≠ t) (hBB : B2 ≠ B)
    (hR1 : d.R e w1 base (fun _ => True) v1 xs1) (hb1 : Below base w w1) (hg : W.grownBy w1 v.ownBlock) :
    Boxed w1 B t v ∧ Boxed (w1.setCell ⟨B, 0, none⟩ v1) B t v1 ∧ Boxed (w1.setCell ⟨B, 0, none⟩ v1) B2 t2 u ∧ d.R e (w1.setCell ⟨B, 0, none⟩ v1) base (fun _ => True) v1 xs1 ∧ d2.R f (w1.setCell ⟨B, 0, none⟩ v1) base (fun _ => True) u ys ∧ Keep1 base B w (w1.setCell ⟨B, 0, none⟩ v1) := by
  have k1 : Boxed w1 B t v := hB.kept hg (Kd.R_ne hR hB h1)
  have k2 : Boxed w1 B2 t2 u := hB2.kept hg (Kd.R_ne hR hB2 h2)
  have k3 : d2.R f w1 base (fun _ => True) u ys := Kd.R_grown2 hR2 hE2 hg (rows_apart hR2 hR hne)
  refine ⟨k1, k1.set v1, k2.kept (grownBy_setCell' w1 B v1) (fun e' => hBB (Option.some.inj e')), ?_, ?_, Keep1.store hb1 v1⟩
  · exact Kd.R_grown1 hR1 hE (grownBy_setCell' w1 B v1) (Kd.R_ne hR1 k1 h1)
  · exact Kd.R_grown1 k3 hE2 (grownBy_setCell' w1 B v1) (Kd.R_ne k3 k1 h3)

set_option maxHeartbeats 1000000 in
set_option maxRecDepth 100000 in
theorem take_in (base Bo Bw : Nat) (c : Int) (st : List ByteArray × List Int) (w : World) (hs : TakeSt base Bo Bw st w) (hb : base ≤ w.heap.size) (hl : st.2.length ≤ 1000000000000) (hc : inB c = true) :
    Calls Tryz.prog 78 #[.int .i64 c, .pointer (some ⟨Bw, 0, none⟩), .pointer (some ⟨Bo, 0, none⟩)] w fun e w' => e = .returned (.tuple #[]) ∧ TakeSt base Bo Bw (stepW st c) w' ∧ Keep2 base Bo Bw w w' := by
  obtain ⟨vo, vw, hBo, hBw, hro, hrw⟩ := hs
  have hst : stepW st c = (st.1, st.2 ++ [fold c]) := by unfold stepW; rw [if_pos hc]
  rw [hst]
  have hBB : Bo ≠ Bw := by
    intro e
    subst e
    have h2 := (show w.heap[Bo]? = _ from hBo).symm.trans (show w.heap[Bo]? = _ from hBw)
    simp at h2
  have hc1 := hBw.cell
  have hor : letterB c = true ∨ (letterB c = false ∧ digitB c = true) := by
    unfold inB at hc
    cases h : letterB c
    · rw [h] at hc; exact .inr ⟨rfl, by simpa using hc⟩
    · exact .inl rfl
  obtain ⟨A1, n1, rfl⟩ := Kd.R_slice hrw
  have hbW : Below base w (w.alloc (.cells #[.int .i64 (fold c)] 3)).drew := ((Below.refl base w).alloc hb _).drew
  have hroW : Kd.R Kd.string 9 (w.alloc (.cells #[.int .i64 (fold c)] 3)).drew base (fun _ => True) vo st.1 := Kd.R_below hro (((Below.refl w.heap.size w).alloc (Nat.le_refl _) _).drew)
  have hrwW : Kd.R (Kd.int .i64) 3 (w.alloc (.cells #[.int .i64 (fold c)] 3)).drew base (fun _ => True) (.slice A1 st.2.length n1) st.2 := Kd.R_below hrw (((Below.refl w.heap.size w).alloc (Nat.le_refl _) _).drew)
  have hBoW : Boxed (w.alloc (.cells #[.int .i64 (fold c)] 3)).drew Bo 34 vo := Boxed.alloc hBo _
  have hBwW : Boxed (w.alloc (.cells #[.int .i64 (fold c)] 3)).drew Bw 39 (.slice A1 st.2.length n1) := Boxed.alloc hBw _
  have hone : Kd.C (Kd.int .i64) (w.alloc (.cells #[.int .i64 (fold c)] 3)).drew (some ⟨w.heap.size, 0, none⟩) 1 [fold c] :=
    Kd.C_of_reads (d := 0) ⟨rfl, by decide, fun _ => ⟨_, rfl, fun j hj => by
      obtain rfl : j = 0 := by omega
      show (w.alloc _).cell? ⟨w.heap.size, 0, none⟩ = _
      rw [World.cell?_alloc_at _ _ _ _ rfl]; rfl⟩⟩
  have hcW := hBwW.cell
  have hbd : (st.2.length + 1) * 8 ≤ 140737488355328 := by omega
  have hsz := Nat.le_trans hb hbW.size
  rcases hor with hL | ⟨hL, hD⟩
  all_goals
    go_enter Tryz.func78, Tryz.ntmps78
    go_wp2_with fail
    refine (letter_any c w).mono ?_
    rintro e w1 ⟨rfl, rfl⟩
    go_wp2_with fail
    try (refine (digit_any c w).mono ?_; rintro e w1 ⟨rfl, rfl⟩; go_wp2_with fail)
    go_region_law (first | (go_simp; go_at_call 81; refine (fold_any c _).mono ?_; rintro e w1 ⟨rfl, rfl⟩) | (refine Kd.R_append_rows_step (Kd.int .i64) (w0 := w) base (by rfl) (.tmp 10) (.tmp 13) 39 3 (.int .i64 0) 8 rfl Tryz.underlying39 infoInt rfl (by decide) (by decide) _ st.2 [fold c] (some ⟨w.heap.size, 0, none⟩) 1 1 (fun _ => True) (fun _ => False) rfl rfl hrwW hone (fun _ _ h => h) (fun _ h => h.elim) (fun _ _ => trivial) hbW hsz hbd ?_; intro v1 w1 hR1 hb1 hg1 _; obtain ⟨k1, k2, k3, k4, k5, k6⟩ := box_stored rfl rfl hBwW hBoW hrwW hroW (by decide) (by decide) (by decide) (by decide) hBB hR1 hb1 hg1; have hcx := k1.cell; have hfx := k1.frozen; obtain ⟨A2, n2, rfl⟩ := Kd.R_slice hR1))
  all_goals
    simp only [List.length_append, List.length_cons, List.length_nil, Nat.zero_add] at k2 k3 k4 k5 k6
    go_wp2
    refine bodyPost_ret (v := .tuple #[]) (by simp [results, Tryz.results78, go_sem]) rfl ⟨rfl, ⟨_, _, k3, k2, k5, k4⟩, k6.1, fun k hk _ h2 => k6.2 k hk h2⟩

/-- A character that is of no word, and there is none: nothing turns. -/
theorem take_out0 (base Bo Bw : Nat) (c : Int) (outs : List ByteArray) (w : World) (hs : TakeSt base Bo Bw (outs, []) w) (hc : inB c = false) :
    Calls Tryz.prog 78 #[.int .i64 c, .pointer (some ⟨Bw, 0, none⟩), .pointer (some ⟨Bo, 0, none⟩)] w fun e w' => e = .returned (.tuple #[]) ∧ TakeSt base Bo Bw (outs, []) w' ∧ Keep2 base Bo Bw w w' := by
  obtain ⟨vo, vw, hBo, hBw, hro, hrw⟩ := hs
  have hBB : Bo ≠ Bw := by
    intro e
    subst e
    have h2 := (show w.heap[Bo]? = _ from hBo).symm.trans (show w.heap[Bo]? = _ from hBw)
    simp at h2
  obtain ⟨A1, n1, rfl⟩ := Kd.R_slice hrw
  have hc1 := hBw.cell
  have hf1 := hBw.frozen
  have hL : letterB c = false := by unfold inB at hc; simpa using (Bool.or_eq_false_iff.mp hc).1
  have hD : digitB c = false := by unfold inB at hc; simpa using (Bool.or_eq_false_iff.mp hc).2
  go_enter Tryz.func78, Tryz.ntmps78
  go_wp2_with fail
  refine (letter_any c w).mono ?_
  rintro e w1 ⟨rfl, rfl⟩
  go_wp2_with fail
  refine (digit_any c w).mono ?_
  rintro e w1 ⟨rfl, rfl⟩
  go_wp2_with fail
  go_end0
  exact ⟨rfl, ⟨_, _, hBo.kept (grownBy_setCell' w Bw _) (fun e => hBB (Option.some.inj e)), hBw.set _, Kd.R_grown1 hro rfl (grownBy_setCell' w Bw _) (Kd.R_ne hro hBw (by decide)), Kd.R_nil _ _ _ _ _⟩, (Keep2.refl base Bo Bw w).store _ (.inr rfl)⟩

theorem boxed_below {w w' : World} {B t : Nat} {v : Value} (h : Boxed w B t v) (hb : Below w.heap.size w w') : Boxed w' B t v := (hb.block B h.lt).trans h

/-- What the walk wants behind sign.Text. -/
theorem text_facts (base Bo Bw : Nat) (s : ByteArray) (outs : List ByteArray) (own : List Int) (vo vw : Value) (w w3 : World) (hb : base ≤ w.heap.size) (hBo : Boxed w Bo 34 vo) (hBw : Boxed w Bw 39 vw) (hro : Kd.R Kd.string 9 w base (fun _ => True) vo outs) (hrw : Kd.R (Kd.int .i64) 3 w base (fun _ => True) vw own)
    (hb3 : Below w.drew.heap.size w.drew w3) :
    w3.cell? ⟨Bo, 0, none⟩ = some vo ∧ w3.cell? ⟨Bw, 0, none⟩ = some vw ∧ (w3.alloc (.cells #[.string s] 9)).cell? ⟨Bo, 0, none⟩ = some vo ∧ Boxed (w3.alloc (.cells #[.string s] 9)) Bo 34 vo ∧ Boxed (w3.alloc (.cells #[.string s] 9)) Bw 39 vw ∧
    Kd.R Kd.string 9 (w3.alloc (.cells #[.string s] 9)) base (fun _ => True) vo outs ∧ Kd.R (Kd.int .i64) 3 (w3.alloc (.cells #[.string s] 9)) base (fun _ => True) vw own ∧ Below base w (w3.alloc (.cells #[.string s] 9)) ∧ base ≤ (w3.alloc (.cells #[.string s] 9)).heap.size ∧
    Kd.C Kd.string (w3.alloc (.cells #[.string s] 9)) (some ⟨w3.heap.size, 0, none⟩) 1 [s] := by
  have hb4 : Below w.heap.size w w3 := (Below.refl w.heap.size w).drew.trans hb3
  have x1 := boxed_below hBo hb4
  have x2 := boxed_below hBw hb4
  have hb5 : Below base w w3 := hb4.mono hb
  have y : Below w3.heap.size w3 (w3.alloc (.cells #[.string s] 9)) := (Below.refl _ w3).alloc (Nat.le_refl _) _
  have hb6 := hb5.alloc (Nat.le_trans hb hb4.size) (.cells #[.string s] 9)
  refine ⟨x1.cell, x2.cell, (x1.alloc _).cell, x1.alloc _, x2.alloc _, Kd.R_below (Kd.R_below hro hb4) y, Kd.R_below (Kd.R_below hrw hb4) y, hb6, Nat.le_trans hb hb6.size, ?_⟩
  refine Kd.C_of_reads (d := ByteArray.empty) ⟨rfl, by decide, fun _ => ⟨_, rfl, fun j hj => ?_⟩⟩
  obtain rfl : j = 0 := by omega
  show (w3.alloc _).cell? ⟨w3.heap.size, 0, none⟩ = _
  rw [World.cell?_alloc_at _ _ _ _ rfl]; rfl

set_option maxHeartbeats 1000000 in
set_option maxRecDepth 100000 in
theorem take_out1 (base Bo Bw : Nat) (c : Int) (outs : List ByteArray) (own : List Int) (w : World) (hs : TakeSt base Bo Bw (outs, own) w) (hb : base ≤ w.heap.size) (hl : own.length ≤ 1000000000000) (hl0 : 0 < own.length) (ho : outs.length ≤ 1000000000000) (hc : inB c = false) :
    Calls Tryz.prog 78 #[.int .i64 c, .pointer (some ⟨Bw, 0, none⟩), .pointer (some ⟨Bo, 0, none⟩)] w fun e w' => e = .returned (.tuple #[]) ∧ TakeSt base Bo Bw (outs ++ [strOf own], []) w' ∧ Keep2 base Bo Bw w w' := by
  obtain ⟨vo, vw, hBo, hBw, hro, hrw⟩ := hs
  have hBB : Bw ≠ Bo := by
    intro e
    subst e
    have h2 := (show w.heap[Bw]? = _ from hBo).symm.trans (show w.heap[Bw]? = _ from hBw)
    simp at h2
  obtain ⟨A1, n1, rfl⟩ := Kd.R_slice hrw
  obtain ⟨A0, n0, rfl⟩ := Kd.R_slice hro
  have hc1 := hBw.cell
  have hc2 := hBo.cell
  have hL : letterB c = false := by unfold inB at hc; simpa using (Bool.or_eq_false_iff.mp hc).1
  have hD : digitB c = false := by unfold inB at hc; simpa using (Bool.or_eq_false_iff.mp hc).2
  have hpos : (0 : Int) < (own.length : Int) := by omega
  go_enter Tryz.func78, Tryz.ntmps78
  go_wp2_with fail
  refine (letter_any c w).mono ?_
  rintro e w1 ⟨rfl, rfl⟩
  go_wp2_with fail
  refine (digit_any c w).mono ?_
  rintro e w1 ⟨rfl, rfl⟩
  go_wp2_with fail
  have hrd := Kd.C_drew (Kd.R_reads' hrw).2.2
  have hbd : (outs.length + 1) * 16 ≤ 140737488355328 := by omega
  have hcd1 : w.drew.cell? ⟨Bw, 0, none⟩ = some (.slice A1 own.length n1) := hc1
  have hcd2 : w.drew.cell? ⟨Bo, 0, none⟩ = some (.slice A0 outs.length n0) := hc2
  have hstr : (⟨(text own).toArray⟩ : ByteArray) = strOf own := rfl
  go_region_law (first | (go_simp; go_at_call 82; refine (text_any A1 n1 own _ hrd hl).mono ?_; rintro e w3 ⟨rfl, hb3⟩; rw [hstr]; obtain ⟨y1, y2, y3, y4, y5, y6, y7, y8, y9, y10⟩ := text_facts base Bo Bw (strOf own) outs own _ _ w w3 hb hBo hBw hro hrw hb3) | (refine Kd.R_append_rows_step Kd.string (w0 := w) base (by rfl) (.tmp 18) (.tmp 21) 34 9 (.string ⟨#[]⟩) 16 rfl Tryz.underlying34 infoStr rfl (by decide) (by decide) _ outs [strOf own] (some ⟨_, 0, none⟩) 1 1 (fun _ => True) (fun _ => False) rfl rfl y6 y10 (fun _ _ h => h) (fun _ h => h.elim) (fun _ _ => trivial) y8 y9 hbd ?_; intro v1 w1 hR1 hb1 hg1 _; obtain ⟨k1, k2, k3, k4, k5, k6⟩ := box_stored rfl rfl y4 y5 y6 y7 (by decide) (by decide) (by decide) (by decide) hBB hR1 hb1 hg1; have hcx := k1.cell; have hfx := k1.frozen; obtain ⟨A2, n2, rfl⟩ := Kd.R_slice hR1))
  all_goals
    simp only [List.length_append, List.length_cons, List.length_nil, Nat.zero_add] at k2 k3 k4 k5 k6
    have z1 := k3.cell
    have z2 := k3.frozen
    go_wp2
    go_end0
    exact ⟨rfl, ⟨_, _, k2.kept (grownBy_setCell' _ Bw _) (fun e => hBB (Option.some.inj e).symm), k3.set _, Kd.R_grown1 k4 rfl (grownBy_setCell' _ Bw _) (Kd.R_ne k4 k3 (by decide)), Kd.R_nil _ _ _ _ _⟩, Keep2.store ⟨k6.1, fun k hk h1 _ => k6.2 k hk h1⟩ _ (.inr rfl)⟩

theorem take_any (base Bo Bw : Nat) (c : Int) (st : List ByteArray × List Int) (w : World) (hs : TakeSt base Bo Bw st w) (hb : base ≤ w.heap.size) (hl : st.2.length ≤ 1000000000000) (ho : st.1.length ≤ 1000000000000) :
    Calls Tryz.prog 78 #[.int .i64 c, .pointer (some ⟨Bw, 0, none⟩), .pointer (some ⟨Bo, 0, none⟩)] w fun e w' => e = .returned (.tuple #[]) ∧ TakeSt base Bo Bw (stepW st c) w' ∧ Keep2 base Bo Bw w w' := by
  cases hc : inB c with
  | true => exact take_in base Bo Bw c st w hs hb hl hc
  | false =>
    obtain ⟨outs, own⟩ := st
    have e : stepW (outs, own) c = (if 0 < own.length then outs ++ [strOf own] else outs, []) := by unfold stepW; rw [hc]; rfl
    rw [e]
    by_cases h0 : 0 < own.length
    · rw [if_pos h0]
      exact take_out1 base Bo Bw c outs own w hs hb hl h0 ho hc
    · obtain rfl : own = [] := List.eq_nil_of_length_eq_zero (by omega)
      rw [if_neg h0]
      exact take_out0 base Bo Bw c outs w hs hc
end Go.Proofs.YteidebllianiiaaGreatDoor

/-! word.Words, whole. -/
set_option linter.unusedVariables false
set_option linter.unusedSimpArgs false
namespace Go.Proofs.YteidebllianiiaaGreatDoor
open Go.RowKit Go.Proofs.YteidebllianiiaaGreatDoorW.PrintWords Go.Proofs.YteidebllianiiaaGreatDoorW.PrintLast Go.Proofs.YteidebllianiiaaGreatDoorW.PrintMore

def stAt (l : List Int) (k : Nat) : List ByteArray × List Int := (l.take k).foldl stepW ([], [])
def wordsOf (l : List Int) : List ByteArray := (stepW (l.foldl stepW ([], [])) 32).1
theorem stepW_len (st : List ByteArray × List Int) (c : Int) : (stepW st c).1.length ≤ st.1.length + 1 ∧ (stepW st c).2.length ≤ st.2.length + 1 := by
  unfold stepW
  split
  · simp
  · split <;> simp
theorem stAt_succ (l : List Int) (k : Nat) (h : k < l.length) : stAt l (k + 1) = stepW (stAt l k) l[k] := by
  unfold stAt
  rw [List.take_succ_eq_append_getElem h, List.foldl_append]; rfl
theorem stAt_len (l : List Int) : ∀ k, (stAt l k).1.length ≤ k ∧ (stAt l k).2.length ≤ k
  | 0 => by simp [stAt]
  | k + 1 => by
    have ih := stAt_len l k
    by_cases h : k < l.length
    · rw [stAt_succ l k h]
      have := stepW_len (stAt l k) l[k]
      omega
    · have e : stAt l (k + 1) = stAt l k := by unfold stAt; rw [List.take_of_length_le (by omega), List.take_of_length_le (by omega)]
      rw [e]; omega
theorem stAt_all (l : List Int) : stAt l l.length = l.foldl stepW ([], []) := by unfold stAt; rw [List.take_length]

theorem Keep2.below {N Bo Bw B : Nat} {w w' : World} (h : Keep2 N Bo Bw w w') (h1 : B ≤ N) (h2 : B ≤ Bo) (h3 : B ≤ Bw) : Below B w w' := ⟨h.1.os, h.1.tape, h.1.output, h.1.size, fun k hk => h.2 k (by omega) (by omega) (by omega)⟩

theorem R_lowS {e base base' : Nat} {w : World} {v : Value} {l : List ByteArray} (h : Kd.R Kd.string e w base (fun _ => True) v l) (hb : base' ≤ base) : Kd.R Kd.string e w base' (fun _ => True) v l := Kd.R_of_own (own_weaken (Kd.own_of_R h) hb) (fun _ _ => trivial)
set_option maxHeartbeats 1000000 in
set_option maxRecDepth 100000 in
theorem words_any (s : ByteArray) (w : World) (hs : s.size ≤ 1000000000) :
    Calls Tryz.prog 64 #[.string s] w fun e w' => ∃ v, e = .returned v ∧ Kd.R Kd.string 9 w' w.heap.size (fun _ => True) v (wordsOf (signs s.data.toList)) ∧ Below w.heap.size w w' := by
  have hsl : (signs s.data.toList).length ≤ 1000000000 := by have := signs_length s.data.toList; have : s.data.toList.length = s.size := Array.length_toList; omega
  have hok : sign_Signs.f s = some (signs s.data.toList) := if_pos (by omega)
  have hW := Lib.hid (show wordsOf (signs s.data.toList) = (stepW (stAt (signs s.data.toList) (signs s.data.toList).length) 32).1 by rw [stAt_all]; rfl)
  have hS := Lib.hid (stAt_succ (signs s.data.toList))
  have hL := Lib.hid (stAt_len (signs s.data.toList))
  generalize wordsOf (signs s.data.toList) = out at *
  generalize signs s.data.toList = l at *
  go_enter Tryz.func64, Tryz.ntmps64
  have hmf := fun (w : World) (fn : Fn) (a b : Value) => (rfl : (Instr.makeFunc fn #[] #[a, b]).run Tryz.prog w = _)
  go_wp2_with fail
  refine (sign_Signs.calls s l _ hok).mono ?_
  rintro e w1 ⟨v, rfl, hR, hb⟩
  obtain ⟨A, c, rfl⟩ := Kd.R_slice hR
  have q1 : Boxed w1 w.heap.size 34 (.slice none 0 0) := boxed_below ((Boxed.new w 34 (.slice none 0 0)).alloc _) hb
  have q2 : Boxed w1 (w.heap.size + 1) 39 (.slice none 0 0) := by
    have h := Boxed.new (w.alloc (.cells #[.slice none 0 0] 34)) 39 (.slice none 0 0)
    rw [World.size_alloc] at h
    exact boxed_below h hb
  have hb1 : Below w.heap.size w w1 := (((Below.refl _ w).alloc (Nat.le_refl _) _).alloc (by simp) _).trans (hb.mono (by simp; omega))
  have hsz : w.heap.size + 2 ≤ w1.heap.size := by have := hb.size; simp at this; omega
  have hRl := Kd.R_mono (Kd.R_bound hR) (ok' := fun k => k < w1.heap.size ∧ k ≠ w.heap.size ∧ k ≠ w.heap.size + 1) (fun k hk => ⟨hk.2.2.1, by have := hk.2.1; simp at this; omega, by have := hk.2.1; simp at this; omega⟩)
  have hst0 : TakeSt w1.heap.size w.heap.size (w.heap.size + 1) (stAt l 0) w1 := ⟨_, _, q1, q2, Kd.R_nil _ _ _ _ _, Kd.R_nil _ _ _ _ _⟩
  clear hR hb
  go_wp2_with fail
  go_loopw [12] (fun i wr => ∃ k : Nat, k ≤ l.length ∧ i = .int .i64 k ∧ TakeSt w1.heap.size w.heap.size (w.heap.size + 1) (stAt l k) wr ∧ Keep2 w1.heap.size w.heap.size (w.heap.size + 1) w1 wr) (fun i _ => l.length - (intOf i).toNat)
  case atStart => exact ⟨0, by omega, rfl, hst0, Keep2.refl _ _ _ _⟩
  case round =>
    obtain ⟨k, hk, rfl, hst, hkp⟩ := hrel
    have hln := hL.out k
    by_cases hlt : k < l.length
    · have hC := (Kd.R_reads' (Kd.R_step hRl (w1 := wr) (fun j ho hj => hkp.2 j ho.1 ho.2.1 ho.2.2))).2.2
      obtain ⟨ad, rfl, hc⟩ := Kd.at_int hC (k : Int) (by omega) (by omega)
      rw [Int.toNat_natCast] at hc
      have hrd : rd l k = l[k] := by unfold rd; simp [hlt]
      rw [hrd] at hc
      have hS' := Lib.hid (hS.out k hlt)
      go_wp2_with fail
      refine (take_any w1.heap.size w.heap.size (w.heap.size + 1) l[k] (stAt l k) wr hst hkp.1.size (by omega) (by omega)).mono ?_
      rintro e w2 ⟨rfl, hst2, hkp2⟩
      rw [← hS'.out] at hst2
      have hkp3 := hkp.trans hkp2
      go_wp2
      go_roundw
      case rel => exact ⟨k + 1, by omega, by go_num, hst2, hkp3⟩
      case measure => simp [intOf]; omega
    · obtain rfl : k = l.length := by omega
      go_wp2_with fail
      refine (take_any w1.heap.size w.heap.size (w.heap.size + 1) 32 (stAt l l.length) wr hst hkp.1.size (by omega) (by omega)).mono ?_
      rintro e w2 ⟨rfl, hst2, hkp2⟩
      obtain ⟨vo, vw, z1, z2, z3, z4⟩ := hst2
      rw [← hW.out] at z3
      obtain ⟨A3, c3, rfl⟩ := Kd.R_slice z3
      have z5 := z1.cell
      have hkp3 := (hkp.trans hkp2).below (B := w.heap.size) (by omega) (by omega) (by omega)
      go_wp2
      go_ret
      exact ⟨_, rfl, R_lowS z3 (by omega), hb1.trans hkp3⟩

def word_Words.f (a0 : ByteArray) : Option (List ByteArray) := if a0.size ≤ 1000000000 then some (wordsOf (signs a0.data.toList)) else none
theorem word_Words.calls (a0 : ByteArray) (r : List ByteArray) (w : World) (h : word_Words.f a0 = some r) :
    Calls Tryz.prog 64 #[.string a0] w fun e w' => ∃ v0_ : Value, e = .returned (v0_) ∧ Kd.R Kd.string 9 w' w.heap.size (fun _ => True) v0_ r ∧ Below w.heap.size w w' := by
  unfold word_Words.f at h
  split at h
  · cases h
    exact words_any a0 w (by assumption)
  · cases h
end Go.Proofs.YteidebllianiiaaGreatDoor

/- What a step leaves alone; a document's words, plain. No condition. -/
set_option linter.unusedVariables false
set_option linter.unusedSimpArgs false
namespace Go.Proofs.YteidebllianiiaaGreatDoor
open Go.RowKit Go.Proofs.YteidebllianiiaaGreatDoor.PAll Go.Proofs.YteidebllianiiaaGreatDoorW.PrintWords Go.Proofs.YteidebllianiiaaGreatDoorW.PrintLast Go.Proofs.YteidebllianiiaaGreatDoorW.PrintMore

/-- What a step that owns the blocks F leaves alone. -/
structure Moves (F : Nat → Prop) (w w' : World) : Prop where
  os : w'.os = w.os
  tape : w'.tape = w.tape
  output : w'.output = w.output
  size : w.heap.size ≤ w'.heap.size
  block : ∀ k, k < w.heap.size → ¬ F k → w'.heap[k]? = w.heap[k]?
theorem Moves.refl (F : Nat → Prop) (w : World) : Moves F w w := ⟨rfl, rfl, rfl, Nat.le_refl _, fun _ _ _ => rfl⟩
theorem Moves.trans' {F : Nat → Prop} {a b c : World} (h : Moves F a b) (k : Moves F b c) : Moves F a c :=
  ⟨k.os.trans h.os, k.tape.trans h.tape, k.output.trans h.output, Nat.le_trans h.size k.size, fun i hi hF => (k.block i (Nat.lt_of_lt_of_le hi h.size) hF).trans (h.block i hi hF)⟩
theorem Moves.of_below {F : Nat → Prop} {w w' : World} (h : Below w.heap.size w w') : Moves F w w' := ⟨h.os, h.tape, h.output, h.size, fun k hk _ => h.block k hk⟩
theorem Moves.less {F G : Nat → Prop} {w w' : World} (h : Moves F w w') (hG : ∀ k, F k → G k) : Moves G w w' := ⟨h.os, h.tape, h.output, h.size, fun k hk hn => h.block k hk (fun q => hn (hG k q))⟩
theorem Moves.store {F : Nat → Prop} {w w' : World} (h : Moves F w w') (a : Addr) (v : Value) (hF : F a.block) : Moves F w (w'.setCell a v) :=
  ⟨h.os, h.tape, h.output, by have := h.size; simpa [World.setCell] using this, fun k hk hn => (Below.heap_setCell w' a v k (fun e => hn (e ▸ hF))).trans (h.block k hk hn)⟩
theorem Moves.grown {F : Nat → Prop} {w w' w1 : World} {ob : Option Nat} (h : Moves F w w') (hg : w'.grownBy w1 ob) (hF : ∀ k, ob = some k → F k ∨ w.heap.size ≤ k) : Moves F w w1 :=
  ⟨hg.os.trans h.os, hg.tape.trans h.tape, hg.output.trans h.output, Nat.le_trans h.size hg.size, fun k hk hn => (hg.block k (Nat.lt_of_lt_of_le hk h.size) (fun e => (hF k e.symm).elim hn (fun e => by omega))).trans (h.block k hk hn)⟩
theorem Moves.below {F : Nat → Prop} {w w' w1 : World} (h : Moves F w w') (hb : Below w.heap.size w' w1) : Moves F w w1 :=
  ⟨hb.os.trans h.os, hb.tape.trans h.tape, hb.output.trans h.output, Nat.le_trans h.size hb.size, fun k hk hn => (hb.block k hk).trans (h.block k hk hn)⟩
theorem Moves.kept {K : Nat → Prop} {w w1 : World} {u : Value} {a : Addr} (hm : Moves (fun k => ¬ K k) w w1) (hk : K a.block) (hc : w.cell? a = some u) : w1.cell? a = some u :=
  (World.cell?_of_block (hm.block _ (World.block_lt_of_cell? w _ hc) (fun h => h hk))).trans hc
theorem Moves.toBelow {K : Nat → Prop} {w w1 : World} (hm : Moves (fun k => ¬ K k) w w1) {B : Nat} (hK : ∀ k, k < B → K k) (hB : B ≤ w.heap.size) : Below B w w1 :=
  ⟨hm.os, hm.tape, hm.output, hm.size, fun k hk => hm.block k (by omega) (fun h => h (hK k hk))⟩
theorem cell_stay2 {w w' : World} {a : Addr} {v : Value} (hb : Below w.heap.size w w') (h : w.cell? a = some v) : w'.cell? a = some v := (hb.cell (World.block_lt_of_cell? w a h)).trans h
theorem heap_alloc_new (w : World) (o : Obj) : (w.alloc o).heap[w.heap.size]? = some o := World.alloc_heap_new w o
theorem below_alloc {n : Nat} {w w' : World} (h : Below n w w') (o : Obj) (hn : n ≤ w'.heap.size) : Below n w (w'.alloc o) := h.alloc hn o
/-- K, and what came anew. -/
def Also (K : Nat → Prop) (W W' : World) (k : Nat) : Prop := K k ∨ (W.heap.size ≤ k ∧ k < W'.heap.size)

/-! ### plain -/
/-- A field's name, a word, its place. -/
abbrev Occ := ByteArray × ByteArray × Nat
def wordsT (s : ByteArray) : List ByteArray := wordsOf (signs s.data.toList)
def occF (f : ByteArray) (l : List ByteArray) : List Occ := l.zipIdx.map (fun x => (f, x.1, x.2))
def occ (l : List S50) : List Occ := l.flatMap (fun f => occF f.f0 (wordsT f.f1))
theorem occF_len (f : ByteArray) (l : List ByteArray) : (occF f l).length = l.length := by simp [occF]
theorem occF_get (f : ByteArray) (l : List ByteArray) (j : Nat) (h : j < l.length) : (occF f l)[j]'(by rw [occF_len]; exact h) = (f, l[j], j) := by simp [occF]
theorem occF_take (f : ByteArray) (l : List ByteArray) (j : Nat) (h : j < l.length) : (occF f l).take (j + 1) = (occF f l).take j ++ [(f, l[j], j)] := by
  rw [List.take_succ_eq_append_getElem (by rw [occF_len]; exact h), occF_get f l j h]
theorem occ_take (l : List S50) (i : Nat) (h : i < l.length) : occ (l.take (i + 1)) = occ (l.take i) ++ occF l[i].f0 (wordsT l[i].f1) := by
  unfold occ
  rw [List.take_succ_eq_append_getElem h, List.flatMap_append, List.flatMap_cons, List.flatMap_nil, List.append_nil]
theorem occ_take_le (l : List S50) (i : Nat) : (occ (l.take i)).length ≤ (occ l).length := by
  conv => rhs; rw [← List.take_append_drop i l]
  unfold occ
  rw [List.flatMap_append, List.length_append]; omega
theorem stepW_lens (st : List ByteArray × List Int) (c : Int) : (stepW st c).1.length ≤ st.1.length + 1 := (stepW_len st c).1
theorem wordsT_len (x : ByteArray) : (wordsT x).length ≤ x.size + 1 := by
  unfold wordsT wordsOf
  have h1 := stAt_len (signs x.data.toList) (signs x.data.toList).length
  rw [stAt_all] at h1
  have h2 := stepW_lens ((signs x.data.toList).foldl stepW ([], [])) 32
  have h3 := signs_length x.data.toList
  have h4 : x.data.toList.length = x.size := Array.length_toList
  omega
theorem field_at {K : Nat → Prop} {w w1 W : World} {A : Option Addr} {l : List S50} (hC : Kd.C k50 w A l.length l) (hK : 0 < l.length → ∀ ad, A = some ad → K ad.block) (_hKw : ∀ k, K k → k < w.heap.size)
    (hb : Below w.heap.size w w1) (hm : Moves (fun k => ¬ K k) w1 W) (i : Nat) (hi : i < l.length) :
    ∃ ad, A = some ad ∧ W.cell? (ad.add (i * 2)) = some (.string l[i].f0) ∧ W.cell? ⟨(ad.add (i * 2)).block, (ad.add (i * 2)).off + 1, none⟩ = some (.string l[i].f1) := by
  obtain ⟨ad, e, c0, c1⟩ := at_T50 hC (i : Int) (by omega) (by omega)
  have hr : rd_T50 l (i : Int) = l[i] := by unfold rd_T50; rw [Int.toNat_natCast, List.getD_eq_getElem?_getD, List.getElem?_eq_getElem hi]; rfl
  rw [Int.toNat_natCast] at c0 c1
  rw [hr] at c0 c1
  have hk : K (ad.add (i * 2)).block := by
    rw [show (ad.add (i * 2)).block = ad.block by unfold Addr.add; split <;> rfl]
    exact hK (by omega) ad e
  exact ⟨ad, e, hm.kept hk (cell_stay2 hb c0), hm.kept (a := ⟨(ad.add (i * 2)).block, (ad.add (i * 2)).off + 1, none⟩) hk (cell_stay2 hb c1)⟩
/-- A word of a row that lies in kept blocks. -/
theorem word_at {K : Nat → Prop} {base e : Nat} {w W : World} {A : Option Addr} {c : Nat} {L : List ByteArray} {ok : Nat → Prop} (hR : Kd.R Kd.string e w base ok (.slice A L.length c) L) (hm : Moves (fun k => ¬ K k) w W) (hK : ∀ k, base ≤ k → k < w.heap.size → K k) (j : Nat) (hj : j < L.length) :
    ∃ ad, A = some ad ∧ W.cell? (ad.add j) = some (.string L[j]) := by
  obtain ⟨_, h1⟩ := Kd.R_own hR
  have hC := (Kd.R_reads' hR).2.2
  obtain ⟨ad, ea, hx⟩ := Kd.at_string hC (j : Int) (by omega) (by omega)
  rw [Int.toNat_natCast] at hx
  have hlt := World.block_lt_of_cell? w _ hx
  have hk : K (ad.add j).block := by
    refine hK _ ?_ hlt
    rw [show (ad.add j).block = ad.block by unfold Addr.add; split <;> rfl]
    have h2 := h1.2
    rcases h2 with ⟨h3, _⟩ | ⟨g, cap, cur, h3, h4, _⟩
    · subst ea; cases h3
    · subst ea
      simp only [Value.slice.injEq, Option.some.injEq] at h3
      rw [h3.1]; exact h4
  refine ⟨ad, ea, ?_⟩
  have := hm.kept hk hx
  rw [this]
  simp [rdOf, List.getElem?_eq_getElem hj]
end Go.Proofs.YteidebllianiiaaGreatDoor

/- A map's entry and the store into it, and a look-up, by the entries themselves. Condition: a law of the keys. -/
set_option linter.unusedVariables false
set_option linter.unusedSimpArgs false
namespace Go.Proofs.YteidebllianiiaaGreatDoor
open Go.RowKit Go.MapKept Go.WideElems Go.ChangeMaps
open Go.Maps (Keyed)

section
variable {P : Program} {w : World} {t k e : TypeId} {b : Nat} {es : Array MapEntry} {clock : Nat} {key : Value} {kl : Lit} {z : Value}
theorem look_raw (K : Keyed P k) (ht : P.underlying t = some (.map k e)) (hz : ∀ u : World, (zeroValue e).run P u = .ok z u) (hb : w.heap[b]? = some (.map es clock)) (hks : ∀ x ∈ es.toList, ∃ l, keyOf P k x.key = some l) (hkey : keyOf P k key = some kl) :
    ((Instr.lookup t (.map (some b)) key false).run P w = .ok z w ∧ ∀ x ∈ es.toList, x.key ≠ key) ∨ ∃ e0 ∈ es.toList, e0.key = key ∧ (Instr.lookup t (.map (some b)) key false).run P w = .ok e0.val w := by
  rcases K.find w hkey es.toList hks with ⟨h1, h2⟩ | ⟨j, e0, h1, h2, h3⟩
  · exact .inl ⟨by simp [Instr.lookup, run_underlying ht, MapKept.run_getObj_map hb, K.check w _ hkey, h1, hz, Result.andThen], h2⟩
  · exact .inr ⟨e0, List.mem_of_getElem? h2, h3, by simp [Instr.lookup, run_underlying ht, MapKept.run_getObj_map hb, K.check w _ hkey, h1, Result.andThen]⟩
theorem mem_modify {l : List MapEntry} {j : Nat} {e0 : MapEntry} (f : MapEntry → MapEntry) (h : l[j]? = some e0) {x : MapEntry} : x ∈ l.modify j f ↔ x = f e0 ∨ ∃ i, i ≠ j ∧ l[i]? = some x := by
  constructor
  · intro hx
    obtain ⟨i, hi⟩ := List.mem_iff_getElem?.1 hx
    rw [List.getElem?_modify] at hi
    by_cases e : j = i
    · subst e; rw [h] at hi; simp at hi; exact .inl hi.symm
    · simp [e] at hi; exact .inr ⟨i, fun e' => e e'.symm, hi⟩
  · rintro (rfl | ⟨i, hi, hx⟩)
    · exact List.mem_iff_getElem?.2 ⟨j, by rw [List.getElem?_modify, h]; simp⟩
    · exact List.mem_iff_getElem?.2 ⟨i, by rw [List.getElem?_modify, hx]; have : ¬ j = i := fun e => hi e.symm; simp [this]⟩
theorem map_modify_born (l : List MapEntry) (j : Nat) (v : Value) : (l.modify j (fun e => { e with val := v })).map (·.born) = l.map (·.born) := by
  apply List.ext_getElem?
  intro i
  rw [List.getElem?_map, List.getElem?_map, List.getElem?_modify]
  cases l[i]? with
  | none => rfl
  | some x => by_cases h : j = i <;> simp [h]
theorem map_modify_key (l : List MapEntry) (j : Nat) (v : Value) : (l.modify j (fun e => { e with val := v })).map (·.key) = l.map (·.key) := by
  apply List.ext_getElem?
  intro i
  rw [List.getElem?_map, List.getElem?_map, List.getElem?_modify]
  cases l[i]? with
  | none => rfl
  | some x => by_cases h : j = i <;> simp [h]
/-- What the store leaves. -/
structure Stored (es : Array MapEntry) (key val : Value) (es' : Array MapEntry) (clock' : Nat) : Prop where
  stamped : Stamped es' clock'
  size : es'.size ≤ es.size + 1
  who : ∀ x ∈ es'.toList, (x ∈ es.toList ∧ x.key ≠ key) ∨ (x.key = key ∧ x.val = val)
  old : ∀ x ∈ es.toList, x.key ≠ key → x ∈ es'.toList
  new : ∃ x ∈ es'.toList, x.key = key ∧ x.val = val
theorem entry_raw (K : Keyed P k) (ht : P.underlying t = some (.map k e)) (hz : ∀ u : World, (zeroValue e).run P u = .ok z u) (hb : w.heap[b]? = some (.map es clock)) (hst : Stamped es clock) (hks : ∀ x ∈ es.toList, ∃ l, keyOf P k x.key = some l) (hkey : keyOf P k key = some kl) :
    ∃ (v0 : Value) (st : Nat) (es1 : Array MapEntry) (clock1 : Nat), (Instr.mapEntry t (.map (some b)) key).run P w = .ok (.tuple #[v0, goInt st]) (setBlock w b (.map es1 clock1)) ∧
      ((∃ e0 ∈ es.toList, e0.key = key ∧ v0 = e0.val) ∨ ((∀ x ∈ es.toList, x.key ≠ key) ∧ v0 = z)) ∧
      ∀ (w2 : World) (val : Value), w2.heap[b]? = some (.map es1 clock1) → ∃ es' clock', (Instr.entryStore t (.map (some b)) (goInt st) val).run P w2 = .ok () (setBlock w2 b (.map es' clock')) ∧ Stored es key val es' clock' := by
  obtain ⟨s1, s2, s3⟩ := hst
  rcases K.find w hkey es.toList hks with ⟨h1, h2⟩ | ⟨j, e0, h1, h2, h3⟩
  · refine ⟨z, clock, es.push ⟨key, z, clock⟩, clock + 1, ?_, Or.inr ⟨h2, rfl⟩, fun w2 val hw2 => ⟨es.push ⟨key, val, clock⟩, clock + 1, ?_, ?_⟩⟩
    · simp [Instr.mapEntry, run_underlying ht, MapKept.run_getObj_map hb, K.check w false hkey, h1, hz, MapKept.run_setObj_map _ hb, Result.andThen, setBlock]
    · have hidx : (es.push ⟨key, z, clock⟩).findIdx? (fun e => ((e.born : Nat) : Int) == ((clock : Nat) : Int)) = some es.size := by
        rw [findIdx_arr]
        have := findIdx_born (l := (es.push ⟨key, z, clock⟩).toList) (j := es.size) (e0 := ⟨key, z, clock⟩) (by
          simp only [Array.toList_push, List.map_append, List.map_cons, List.map_nil]
          refine List.nodup_append.2 ⟨s2, by simp, fun a ha c hc e1 => ?_⟩
          simp only [List.mem_singleton] at hc
          obtain ⟨x, hx, rfl⟩ := List.mem_map.1 ha
          have := s1 x hx
          omega) (by simp)
        exact this
      have hmod : (es.push ⟨key, z, clock⟩).modify es.size (fun e => { e with val := val }) = es.push ⟨key, val, clock⟩ := by
        apply Array.ext'
        rw [Array.toList_modify, Array.toList_push, Array.toList_push, ← Array.length_toList, modify_last]
      simp [Instr.entryStore, MapKept.run_getObj_map hw2, asInt, asIntOf, goInt, hidx, hmod, MapKept.run_setObj_map _ hw2, Result.andThen, setBlock]
    · refine ⟨⟨?_, ?_, ?_⟩, by simp, ?_, ?_, ?_⟩
      · intro x hx
        rw [Array.toList_push, List.mem_append, List.mem_singleton] at hx
        rcases hx with hx | rfl
        · have := s1 x hx; omega
        · exact Nat.lt_succ_self _
      · rw [Array.toList_push, List.map_append, List.map_cons, List.map_nil]
        refine List.nodup_append.2 ⟨s2, by simp, fun a ha c hc e1 => ?_⟩
        simp only [List.mem_singleton] at hc
        obtain ⟨x, hx, rfl⟩ := List.mem_map.1 ha
        have := s1 x hx
        omega
      · rw [Array.toList_push, List.map_append, List.map_cons, List.map_nil]
        refine List.nodup_append.2 ⟨s3, by simp, fun a ha c hc e1 => ?_⟩
        simp only [List.mem_singleton] at hc
        obtain ⟨x, hx, rfl⟩ := List.mem_map.1 ha
        exact h2 x hx (e1.trans hc)
      · intro x hx
        rw [Array.toList_push, List.mem_append, List.mem_singleton] at hx
        rcases hx with hx | rfl
        · exact .inl ⟨hx, h2 x hx⟩
        · exact .inr ⟨rfl, rfl⟩
      · intro x hx _
        rw [Array.toList_push]; exact List.mem_append_left _ hx
      · exact ⟨⟨key, val, clock⟩, by rw [Array.toList_push]; simp, rfl, rfl⟩
  · have hj : es[j]? = some e0 := by simpa using h2
    have hsame : es.modify j (fun e => { e with key := key }) = es := by
      apply Array.ext'
      rw [Array.toList_modify, modify_eq_set _ _ _ _ h2]
      have : ({ e0 with key := key } : MapEntry) = e0 := by rw [← h3]
      rw [this]
      exact set_self _ _ _ h2
    refine ⟨e0.val, e0.born, es, clock, ?_, Or.inl ⟨e0, List.mem_of_getElem? h2, h3, rfl⟩, fun w2 val hw2 => ⟨es.modify j (fun e' => { e' with val := val }), clock, ?_, ?_⟩⟩
    · simp [Instr.mapEntry, run_underlying ht, MapKept.run_getObj_map hb, K.check w false hkey, h1, hj, h3, K.stays w hkey, hsame, MapKept.run_setObj_map _ hb, Result.andThen, setBlock]
    · have hidx : es.findIdx? (fun e => ((e.born : Nat) : Int) == ((e0.born : Nat) : Int)) = some j := by
        rw [findIdx_arr]
        exact findIdx_born s2 h2
      simp [Instr.entryStore, MapKept.run_getObj_map hw2, asInt, asIntOf, goInt, hidx, MapKept.run_setObj_map _ hw2, Result.andThen, setBlock]
    · have hm : ∀ {x : MapEntry}, x ∈ (es.modify j (fun e' => { e' with val := val })).toList ↔ x = { e0 with val := val } ∨ ∃ i, i ≠ j ∧ es.toList[i]? = some x := by
        intro x
        rw [Array.toList_modify]
        exact mem_modify _ h2
      have huniq : ∀ {i : Nat} {x : MapEntry}, es.toList[i]? = some x → x.key = key → i = j := by
        intro i x hi hx
        have h5 := List.pairwise_iff_getElem.1 s3
        obtain ⟨li, ei⟩ := List.getElem?_eq_some_iff.1 hi
        obtain ⟨lj, ej⟩ := List.getElem?_eq_some_iff.1 h2
        rcases Nat.lt_trichotomy i j with h | h | h
        · exact (h5 i j (by simpa using li) (by simpa using lj) h (by simp [ei, ej, hx, h3])).elim
        · exact h
        · exact (h5 j i (by simpa using lj) (by simpa using li) h (by simp [ei, ej, hx, h3])).elim
      refine ⟨⟨?_, ?_, ?_⟩, by simp, ?_, ?_, ?_⟩
      · intro x hx
        rcases hm.1 hx with rfl | ⟨i, _, hi⟩
        · exact s1 e0 (List.mem_of_getElem? h2)
        · exact s1 x (List.mem_of_getElem? hi)
      · rw [Array.toList_modify, map_modify_born]; exact s2
      · rw [Array.toList_modify, map_modify_key]; exact s3
      · intro x hx
        rcases hm.1 hx with rfl | ⟨i, hi, hx2⟩
        · exact .inr ⟨h3, rfl⟩
        · exact .inl ⟨List.mem_of_getElem? hx2, fun e => hi (huniq hx2 e)⟩
      · intro x hx hne
        obtain ⟨i, hi⟩ := List.mem_iff_getElem?.1 hx
        exact hm.2 (.inr ⟨i, fun e => by subst e; rw [h2] at hi; cases hi; exact hne h3, hi⟩)
      · exact ⟨_, hm.2 (.inl rfl), h3, rfl⟩
end
end Go.Proofs.YteidebllianiiaaGreatDoor

/- The words of a document, told one by one: doc.each. Condition: what is told keeps its word; few bytes. -/
set_option linter.unusedVariables false
set_option linter.unusedSimpArgs false
namespace Go.Proofs.YteidebllianiiaaGreatDoor
open Go.RowKit Go.Proofs.YteidebllianiiaaGreatDoor.PAll Go.Proofs.YteidebllianiiaaGreatDoorW.PrintWords Go.Proofs.YteidebllianiiaaGreatDoorW.PrintLast Go.Proofs.YteidebllianiiaaGreatDoorW.PrintMore

/-- What is told, and kept: apart from the blocks K. -/
structure Tells1 (g : FuncId) (p : Addr) (N : Nat) (ok : ByteArray → ByteArray → Prop) (J : (Nat → Prop) → List Occ → World → Prop) : Prop where
  enters : ∀ (u v : Value) (w : World), (callFunc g #[u, v, .pointer (some p)]).run Tryz.prog w = .ok (.enter g #[u, v, .pointer (some p)]) w
  less : ∀ {K K' : Nat → Prop} {pre : List Occ} {W : World}, J K pre W → (∀ k, K' k → K k) → J K' pre W
  also : ∀ {K : Nat → Prop} {pre : List Occ} {W W' : World}, J K pre W → Below W.heap.size W W' → J (Also K W W') pre W'
  step : ∀ (K : Nat → Prop) (pre : List Occ) (f x : ByteArray) (i : Nat) (W : World), J K pre W → pre.length < N → ok f x →
    Calls Tryz.prog g #[.agg #[.string f, .string x], .int .i64 (i : Int), .pointer (some p)] W fun e W' => e = .returned (.tuple #[]) ∧ J K (pre ++ [(f, x, i)]) W' ∧ Moves (fun k => ¬ K k) W W'
set_option maxHeartbeats 4000000 in
set_option maxRecDepth 100000 in
theorem each1_any {g : FuncId} {p : Addr} {N : Nat} {ok : ByteArray → ByteArray → Prop} {J : (Nat → Prop) → List Occ → World → Prop} (T : Tells1 g p N ok J) (K : Nat → Prop) (id : Int) (A : Option Addr) (c : Nat) (l : List S50) (w : World) (hC : Kd.C k50 w A l.length l)
    (hK : 0 < l.length → ∀ ad, A = some ad → K ad.block) (hKw : ∀ k, K k → k < w.heap.size) (hJ : J K [] w) (hN : (occ l).length ≤ N) (hl : l.length ≤ 1000000000) (hs : ∀ f ∈ l, f.f1.size ≤ 1000000000) (hok : ∀ f ∈ l, ∀ x ∈ wordsT f.f1, ok f.f0 x) :
    Calls Tryz.prog 46 #[.agg #[.int .i64 id, .slice A l.length c], .func (.func g) #[] #[.pointer (some p)]] w fun e w' => e = .returned (.tuple #[]) ∧ J K (occ l) w' ∧ Moves (fun k => ¬ K k) w w' := by
  have HE := Lib.hid (fun f x i W => T.enters (.agg #[.string f, .string x]) (.int .i64 i) W)
  have HT := Lib.hid T
  have HC := Lib.hid hC
  have HK := Lib.hid hK
  have HJ := Lib.hid hJ
  have HN := Lib.hid hN
  have HS := Lib.hid hs
  have HKW := Lib.hid hKw
  have HOK := Lib.hid hok
  clear T hC hK hJ hN hs hKw hok
  go_enter Tryz.func46, Tryz.ntmps46
  go_upto_region 2 with fail
  obtain ⟨w1, hw1⟩ : ∃ w1, w1 = w.alloc (.cells #[.int .i64 id, .slice A l.length c] 31 (0, 0)) := ⟨_, rfl⟩
  rw [← hw1]
  have hb1 : Below w.heap.size w w1 := by rw [hw1]; exact below_alloc (Below.refl _ _) _ (Nat.le_refl _)
  have HB1 := Lib.hid hb1
  have HJ1 := Lib.hid (HT.out.less (HT.out.also HJ.out hb1) (K' := K) (fun k hk => .inl hk))
  have HC1 := Lib.hid (fun (W : World) (hm : Moves (fun k => ¬ K k) w1 W) (i : Nat) (hi : i < l.length) => field_at HC.out HK.out HKW.out hb1 hm i hi)
  have HKW1 := Lib.hid (fun k (hk : K k) => Nat.lt_of_lt_of_le (HKW.out k hk) hb1.size)
  clear hb1 hw1 HC HJ HKW
  go_loopw [11] (fun v11 wr => ∃ i : Nat, v11 = .int .i64 (i : Int) ∧ i ≤ l.length ∧ J K (occ (l.take i)) wr ∧ Moves (fun k => ¬ K k) w1 wr) (fun v11 _ => l.length - (intOf v11).toNat)
  case atStart => exact ⟨0, rfl, by omega, HJ1.out, Moves.refl _ _⟩
  case round =>
    clear HJ1
    obtain ⟨i, rfl, hi, hj, hm⟩ := hrel
    obtain ⟨W, hW⟩ : ∃ W, W = wr := ⟨_, rfl⟩
    rw [← hW] at hj hm ⊢
    clear hW wr
    by_cases hlt : i < l.length
    · have g1 : (i : Int) < (l.length : Int) := by omega
      obtain ⟨ad, rfl, c0, c1⟩ := HC1.out W hm i hlt
      have hoc := occ_take l i hlt
      have hsz := HS.out _ (List.getElem_mem hlt)
      have hle := occ_take_le l (i + 1)
      have hokk := HOK.out _ (List.getElem_mem hlt)
      obtain ⟨f, hf⟩ : ∃ f, f = l[i] := ⟨_, rfl⟩
      rw [← hf] at c0 c1 hoc hsz hokk
      obtain ⟨F, x⟩ := f
      have HOC := Lib.hid hoc
      have HW := Lib.hid (words_any x)
      obtain ⟨L, hL⟩ : ∃ L, L = wordsT x := ⟨_, rfl⟩
      have HLX := Lib.hid hL
      have HOKK := Lib.hid (show ∀ y ∈ L, ok F y from fun y hy => hokk y (by rw [← hL]; exact hy))
      have HM := Lib.hid hm
      have HJ2 := Lib.hid hj
      have HSZ := Lib.hid hsz
      have HLE := Lib.hid hle
      have hLl : L.length ≤ 1000000001 := by rw [hL]; have := wordsT_len x; simp only at hsz; omega
      clear hj hm hoc hf hL hsz hle hokk
      go_upto_region 4 with fail
      obtain ⟨W1, hW1⟩ : ∃ W1, W1 = W.alloc (.cells #[.string F, .string x] 50 (0, 0)) := ⟨_, rfl⟩
      rw [← hW1]
      have hb2 : Below W.heap.size W W1 := by rw [hW1]; exact below_alloc (Below.refl _ _) _ (Nat.le_refl _)
      have d0 : W1.cell? ⟨W.heap.size, 0, none⟩ = some (.string F) := (blk_cell (show W1.heap[W.heap.size]? = some (.cells #[.string F, .string x] 50 (0, 0)) by rw [hW1]; exact heap_alloc_new W _) 0).trans rfl
      have d1 : W1.cell? ⟨W.heap.size, 1, none⟩ = some (.string x) := (blk_cell (show W1.heap[W.heap.size]? = some (.cells #[.string F, .string x] 50 (0, 0)) by rw [hW1]; exact heap_alloc_new W _) 1).trans rfl
      have hz1 : W1.heap.size = W.heap.size + 1 := by rw [hW1]; simp
      have HB2 := Lib.hid hb2
      have HZ1 := Lib.hid hz1
      clear hb2 hW1 hz1
      go_wp2_with fail
      refine (HW.out W1 HSZ.out).mono ?_
      rintro e W2 ⟨v, rfl, hR, hb3⟩
      rw [show wordsOf (signs x.data.toList) = L from HLX.out.symm] at hR
      obtain ⟨AL, cL, rfl⟩ := Kd.R_slice hR
      have HRD := Lib.hid hR
      have HB3 := Lib.hid (HB2.out.trans (hb3.mono HB2.out.size))
      have d2 := cell_stay2 hb3 d0
      have HZ3 := Lib.hid hb3.size
      have HJ3 := Lib.hid (HT.out.also HJ2.out (HB2.out.trans (hb3.mono HB2.out.size)))
      clear hR hb3 d0 d1
      go_upto_region 5 with fail
      go_loopw [19] (fun v19 wq => ∃ j : Nat, v19 = .int .i64 (j : Int) ∧ j ≤ L.length ∧ J (Also K W W2) (occ (l.take i) ++ (occF F L).take j) wq ∧ Moves (fun k => ¬ Also K W W2 k) W2 wq) (fun v19 _ => L.length - (intOf v19).toNat)
      case atStart => exact ⟨0, rfl, by omega, by simpa using HJ3.out, Moves.refl _ _⟩
      case round =>
        clear HJ3
        obtain ⟨j, rfl, hj, hjj, hmm⟩ := hrel
        by_cases hjl : j < L.length
        · have g2 : (j : Int) < (L.length : Int) := by omega
          have hst := HT.out.step (Also K W W2) (occ (l.take i) ++ (occF F L).take j) F L[j] j wr hjj (by
            have h1 := HN.out
            have h2 := HLE.out
            rw [HOC.out] at h2
            rw [show wordsT x = L from HLX.out.symm] at h2
            have h3 := occF_len F L
            rw [List.length_append, List.length_take] at *
            omega) (HOKK.out _ (List.getElem_mem hjl))
          have hnx := occF_take F L j hjl
          have dF := hmm.kept (a := ⟨W.heap.size, 0, none⟩) (.inr ⟨Nat.le_refl _, by have := HZ1.out; have := HZ3.out; show W.heap.size < W2.heap.size; omega⟩) d2
          obtain ⟨al, hal, e1⟩ := word_at HRD.out hmm (fun k h1 h2 => .inr ⟨by have := HZ1.out; omega, h2⟩) j hjl
          cases hal
          obtain ⟨X, hX⟩ : ∃ X, X = L[j] := ⟨_, rfl⟩
          rw [← hX] at hst hnx e1
          have HST := Lib.hid hst
          have HNX := Lib.hid hnx
          have HMM := Lib.hid hmm
          have he := HE.out F X (j : Int)
          clear hst hnx hmm hjj hX
          go_wp2_with fail
          refine HST.out.mono ?_
          rintro e W4 ⟨rfl, hj4, hm4⟩
          rw [List.append_assoc, ← HNX.out] at hj4
          have HJ4 := Lib.hid hj4
          have HM4 := Lib.hid (HMM.out.trans' hm4)
          clear hj4 hm4 he
          go_wp2_with fail
          go_roundw
          case rel => exact ⟨j + 1, by go_num, by omega, HJ4.out, HM4.out⟩
          case measure => simp only [intOf]; omega
        · obtain rfl : j = L.length := by omega
          have hj5 : J K (occ (l.take (i + 1))) wr := by
            rw [HOC.out, show wordsT x = L from HLX.out.symm]
            have h1 := HT.out.less hjj (K' := K) (fun k hk => .inl hk)
            rw [show (occF F L).take L.length = occF F L from List.take_of_length_le (by rw [occF_len]; exact Nat.le_refl _)] at h1
            exact h1
          have hm5 := HM.out.trans' ((Moves.of_below HB3.out).trans' (hmm.less (G := fun k => ¬ K k) (fun k hk h => hk (.inl h))))
          have HJ5 := Lib.hid hj5
          have HM5 := Lib.hid hm5
          clear hj5 hm5 hjj hmm
          go_wp2_with fail
          go_roundw
          case rel => exact ⟨i + 1, by go_num, by omega, HJ5.out, HM5.out⟩
          case measure => simp only [intOf]; omega
    · obtain rfl : i = l.length := by omega
      rw [List.take_length] at hj
      have HJ6 := Lib.hid hj
      have HM6 := Lib.hid (Moves.trans' (Moves.of_below HB1.out) hm)
      clear hj hm
      go_wp2_with fail
      go_end0
      exact ⟨rfl, HJ6.out, HM6.out⟩

/-- What is told, and kept: apart from the blocks K. -/
structure Tells2 (g : FuncId) (p q : Addr) (N : Nat) (ok : ByteArray → ByteArray → Prop) (J : (Nat → Prop) → List Occ → World → Prop) : Prop where
  enters : ∀ (u v : Value) (w : World), (callFunc g #[u, v, .pointer (some p), .pointer (some q)]).run Tryz.prog w = .ok (.enter g #[u, v, .pointer (some p), .pointer (some q)]) w
  less : ∀ {K K' : Nat → Prop} {pre : List Occ} {W : World}, J K pre W → (∀ k, K' k → K k) → J K' pre W
  also : ∀ {K : Nat → Prop} {pre : List Occ} {W W' : World}, J K pre W → Below W.heap.size W W' → J (Also K W W') pre W'
  step : ∀ (K : Nat → Prop) (pre : List Occ) (f x : ByteArray) (i : Nat) (W : World), J K pre W → pre.length < N → ok f x →
    Calls Tryz.prog g #[.agg #[.string f, .string x], .int .i64 (i : Int), .pointer (some p), .pointer (some q)] W fun e W' => e = .returned (.tuple #[]) ∧ J K (pre ++ [(f, x, i)]) W' ∧ Moves (fun k => ¬ K k) W W'

end Go.Proofs.YteidebllianiiaaGreatDoor

/- A document turned round: the map that is filled. Condition: few bytes. -/
set_option linter.unusedVariables false
set_option linter.unusedSimpArgs false
namespace Go.Proofs.YteidebllianiiaaGreatDoor
open Go.RowKit Go.Proofs.YteidebllianiiaaGreatDoor.PAll Go.Proofs.YteidebllianiiaaGreatDoorW.PrintWords Go.Proofs.YteidebllianiiaaGreatDoorW.PrintLast Go.Proofs.YteidebllianiiaaGreatDoorW.PrintMore
open Go.MapKept (Stamped)
open Go.ChangeMaps (setBlock)

abbrev Tm := ByteArray × ByteArray
def encT (t : Tm) : Value := .agg #[.string t.1, .string t.2]
theorem encT_inj {t u : Tm} (h : encT t = encT u) : t = u := by
  unfold encT at h
  simp only [Value.agg.injEq, Array.mk.injEq, List.cons.injEq, Value.string.injEq] at h
  exact Prod.ext h.1 h.2.1
def Tiny (t : Tm) : Prop := t.1.size ≤ 10000000 ∧ t.2.size ≤ 10000000
theorem laidOutT : laidOutB Tryz.prog = true := by kernel_rfl
theorem keyedT : Go.Maps.Keyed Tryz.prog 70 :=
  Go.Maps.Keyed.of_law (deep_law_laid laidOutT (m := 2) (by omega) (of_decide_eq_true (by kernel_rfl)) (by kernel_rfl) (by rw [Tryz.underlying70]))
theorem keyType_T : Tryz.prog.keyType 70 = true := by kernel_rfl
theorem cells_T : Tryz.prog.cellsOf 70 = 2 := by kernel_rfl
theorem cells_S : Tryz.prog.cellsOf 9 = 1 := by kernel_rfl
theorem keyOfT (t : Tm) (h : Tiny t) : ∃ l, keyOf Tryz.prog 70 (encT t) = some l := by
  obtain ⟨a, b⟩ := t
  have h1 : a.size ≤ maxLen := by unfold maxLen; have := h.1; simp only at this; omega
  have h2 : b.size ≤ maxLen := by unfold maxLen; have := h.2; simp only at this; omega
  obtain ⟨n, hn⟩ : ∃ n, Tryz.prog.types.size = n + 1 := ⟨Tryz.prog.types.size - 1, by
    have : 0 < Tryz.prog.types.size := of_decide_eq_true (by kernel_rfl)
    omega⟩
  have hl : ∀ (m : Nat) (s : ByteArray), s.size ≤ maxLen → Tryz.prog.keyLits (m + 1) 9 [.string s] = some [.string s.data.toList] := by
    intro m s hs
    unfold Program.keyLits
    rw [Tryz.underlying9]
    simp [hs]
  rw [← Option.isSome_iff_exists]
  unfold keyOf
  rw [Tryz.underlying70]
  simp only [keyType_T, encT, Value.formed, Tryz.underlying70, cells_T, Value.cells, hn]
  unfold Program.keyLits
  rw [Tryz.underlying70]
  simp [cells_T, cells_S, hl _ _ h1, hl _ _ h2]

/-! ### plain -/
def tmOf (o : Occ) : Tm := (o.1, o.2.1)
def placesIn (pre : List Occ) (t : Tm) : List Int := (pre.filter (fun o => decide (tmOf o = t))).map (fun o => (o.2.2 : Int))
theorem placesIn_snoc (pre : List Occ) (o : Occ) (t : Tm) : placesIn (pre ++ [o]) t = if tmOf o = t then placesIn pre t ++ [(o.2.2 : Int)] else placesIn pre t := by
  unfold placesIn
  rw [List.filter_append]
  by_cases h : tmOf o = t <;> simp [h]
theorem placesIn_len (pre : List Occ) (t : Tm) : (placesIn pre t).length ≤ pre.length := by
  unfold placesIn
  rw [List.length_map]; exact List.length_filter_le _ _

theorem grown_block {w : World} {b : Nat} {es : Array MapEntry} {c : Nat} {o' : Obj} (h : w.heap[b]? = some (.map es c)) : w.grownBy (setBlock w b o') (some b) :=
  ⟨rfl, rfl, rfl, by simp [setBlock], fun i _ hi => Go.ChangeMaps.heap_setBlock_other h _ (fun e1 => hi (by rw [e1]))⟩
theorem own_not_map {w : World} {base e size n b : Nat} {v : Value} {xs : List Value} {es : Array MapEntry} {c : Nat} (h : w.ownsRow base e size v n xs) (hb : w.heap[b]? = some (.map es c)) : v.ownBlock ≠ some b := by
  intro e1
  obtain ⟨cells, hc⟩ := own_typed h b e1
  rw [hb] at hc
  cases hc

structure GroupsF (base bx b : Nat) (K : Nat → Prop) (pre : List Occ) (W : World) (es : Array MapEntry) (clock : Nat) : Prop where
  box : Boxed W bx 91 (.map (some b))
  map : W.heap[b]? = some (.map es clock)
  kx : ¬ K bx
  kb : ¬ K b
  klt : ∀ k, K k → k < W.heap.size
  low : base ≤ b
  stamped : Stamped es clock
  size : es.size ≤ pre.length
  who : ∀ x ∈ es.toList, ∃ t, x.key = encT t ∧ Tiny t ∧ placesIn pre t ≠ [] ∧ W.ownsRow base 3 1 x.val (placesIn pre t).length ((placesIn pre t).map (Value.int .i64)) ∧ ∀ k, x.val.ownBlock = some k → ¬ K k
  all : ∀ t, placesIn pre t ≠ [] → ∃ x ∈ es.toList, x.key = encT t
  apart : ∀ x ∈ es.toList, ∀ y ∈ es.toList, x.key ≠ y.key → ∀ k, x.val.ownBlock = some k → y.val.ownBlock ≠ some k
def GroupsAt (base bx b : Nat) (K : Nat → Prop) (pre : List Occ) (W : World) : Prop := ∃ es clock, GroupsF base bx b K pre W es clock
section
variable {base bx b : Nat} {K K' : Nat → Prop} {pre : List Occ} {W W' : World}
theorem GroupsAt.less (h : GroupsAt base bx b K pre W) (hk : ∀ k, K' k → K k) : GroupsAt base bx b K' pre W := by
  obtain ⟨es, clock, h⟩ := h
  exact ⟨es, clock, h.box, h.map, fun q => h.kx (hk _ q), fun q => h.kb (hk _ q), fun k q => h.klt k (hk _ q), h.low, h.stamped, h.size, fun x hx => by
    obtain ⟨t, a1, a2, a3, a4, a5⟩ := h.who x hx
    exact ⟨t, a1, a2, a3, a4, fun k e q => a5 k e (hk _ q)⟩, h.all, h.apart⟩
theorem GroupsAt.also (h : GroupsAt base bx b K pre W) (hb : Below W.heap.size W W') : GroupsAt base bx b (Also K W W') pre W' := by
  obtain ⟨es, clock, h⟩ := h
  have hlt := (Array.getElem?_eq_some_iff.1 h.map).1
  exact ⟨es, clock, boxed_below h.box hb, (hb.block b hlt).trans h.map, fun q => q.elim h.kx (fun q => by have := h.box.lt; omega), fun q => q.elim h.kb (fun q => by omega),
    fun k q => q.elim (fun q => Nat.lt_of_lt_of_le (h.klt k q) hb.size) (fun q => q.2), h.low, h.stamped, h.size, fun x hx => by
    obtain ⟨t, a1, a2, a3, a4, a5⟩ := h.who x hx
    exact ⟨t, a1, a2, a3, pw_own_below a4 hb, fun k e q => q.elim (a5 k e) (fun q => by have := own_lt a4 k e; omega)⟩, h.all, h.apart⟩
end
theorem zeroRow (u : World) : (zeroValue 39).run Tryz.prog u = .ok (.slice none 0 0) u := Tryz.zeroValue39 u
/-- An append whose outcome is known. -/
theorem wpList_append_run {w w' : World} {ops : Array Oper} {rest : List Oper} {o : Oper} {a : Act} {Q : Exit → Act → World → Prop} (hgd : o.guard = none) (s x : Operand) (t : TypeId)
    (ho : o.op = .call { callee := .builtin .append, args := #[s, x], argTypes := #[t, t] }) (v u v' : Value) (hs : a.eval s = v) (hx : a.eval x = u)
    (hr : (Builtin.append_ #[t, t] o.type #[v, u]).run Tryz.prog w = .ok v' w') (h : wpList Tryz.prog ops Q rest (a.put o.dst v') w') : wpList Tryz.prog ops Q (o :: rest) a w := by
  refine wpList_plain hgd fun K hK => ?_
  unfold Oper.wp execOp
  simp only [ho, resolve, invoke, builtin, Sem.run_bind, Sem.run_pure, Result.andThen_ok, List.map_toArray, List.map_cons, List.map_nil, hs, hx, hr]
  exact hK _ _ h
set_option maxHeartbeats 1000000 in
set_option maxRecDepth 100000 in
theorem groups_fn {base bx b : Nat} {K : Nat → Prop} {pre : List Occ} (f x : ByteArray) (i : Nat) (W : World) (h : GroupsAt base bx b K pre W) (hN : pre.length < 1000001000) (ht : Tiny (f, x)) :
    Calls Tryz.prog 47 #[.agg #[.string f, .string x], .int .i64 (i : Int), .pointer (some ⟨bx, 0, none⟩)] W fun e W' => e = .returned (.tuple #[]) ∧ GroupsAt base bx b K (pre ++ [(f, x, i)]) W' ∧ Moves (fun k => ¬ K k) W W' := by
  obtain ⟨es, clock, h⟩ := h
  obtain ⟨W1, hW1⟩ : ∃ W1, W1 = W.alloc (.cells #[.string f, .string x] 70) := ⟨_, rfl⟩
  obtain ⟨W2, hW2⟩ : ∃ W2, W2 = W1.alloc (.cells #[.int .i64 (i : Int)] 3) := ⟨_, rfl⟩
  have hb1 : Below W.heap.size W W1 := by rw [hW1]; exact below_alloc (Below.refl _ _) _ (Nat.le_refl _)
  have hb2 : Below W.heap.size W W2 := by rw [hW2]; exact below_alloc hb1 _ hb1.size
  have hz1 : W1.heap.size = W.heap.size + 1 := by rw [hW1]; simp
  have hz2 : W2.heap.size = W.heap.size + 2 := by rw [hW2]; simp [hz1]
  have hblt := (Array.getElem?_eq_some_iff.1 h.map).1
  have hxlt := h.box.lt
  have hm2 : W2.heap[b]? = some (.map es clock) := (hb2.block b hblt).trans h.map
  have hks : ∀ y ∈ es.toList, ∃ l, keyOf Tryz.prog 70 y.key = some l := fun y hy => by
    obtain ⟨t, e, q, _⟩ := h.who y hy
    rw [e]; exact keyOfT t q
  obtain ⟨kl, hkl⟩ := keyOfT (f, x) ht
  obtain ⟨v0, st, es1, clock1, hme, hv0, hes⟩ := entry_raw keyedT Tryz.underlying91 zeroRow hm2 h.stamped hks hkl
  obtain ⟨W3, hW3⟩ : ∃ W3, W3 = setBlock W2 b (.map es1 clock1) := ⟨_, rfl⟩
  rw [← hW3] at hme
  have hg3 : W2.grownBy W3 (some b) := by rw [hW3]; exact grown_block hm2
  have hm3 : W3.heap[b]? = some (.map es1 clock1) := by rw [hW3]; exact Go.ChangeMaps.heap_setBlock_same hm2 _
  -- what the entry's value owns
  have hown0 : W.ownsRow base 3 1 v0 (placesIn pre (f, x)).length ((placesIn pre (f, x)).map (Value.int .i64)) ∧ (∀ k, v0.ownBlock = some k → ¬ K k) ∧ ∀ y ∈ es.toList, y.key ≠ encT (f, x) → ∀ k, y.val.ownBlock = some k → v0.ownBlock ≠ some k := by
    rcases hv0 with ⟨e0, he0, hk0, rfl⟩ | ⟨hno, rfl⟩
    · obtain ⟨t, e, _, _, q, q2⟩ := h.who e0 he0
      obtain rfl := encT_inj (e.symm.trans hk0)
      exact ⟨q, q2, fun y hy hne k hk => h.apart y hy e0 he0 (by rw [hk0]; exact hne) k hk⟩
    · have hnil : placesIn pre (f, x) = [] := Classical.byContradiction fun hne => by
        obtain ⟨y, hy, e⟩ := h.all _ hne
        exact hno y hy e
      rw [hnil]
      exact ⟨own_nil _ _ _ _, fun k hk => by simp [Value.ownBlock] at hk, fun y hy _ k _ hk => by simp [Value.ownBlock] at hk⟩
  obtain ⟨ho0, hK0, hA0⟩ := hown0
  have hlen := placesIn_len pre (f, x)
  have ho2 := pw_own_below ho0 hb2
  have ho3 := ho2.kept hg3 (.inr (own_not_map ho2 hm2))
  have hcell : ∀ (j : Nat) (u : Value), [Value.int .i64 (i : Int)][j]? = some u → W3.cell? ((⟨W1.heap.size, 0, none⟩ : Addr).add j) = some u := by
    intro j u hj
    have h0 : W2.heap[W1.heap.size]? = some (.cells #[.int .i64 (i : Int)] 3 (0, 0)) := by rw [hW2]; exact heap_alloc_new W1 _
    have h3 : W3.heap[W1.heap.size]? = some (.cells #[.int .i64 (i : Int)] 3 (0, 0)) := (hg3.block _ (by omega) (fun e => by have := Option.some.inj e; omega)).trans h0
    cases j with
    | zero => simp at hj; subst hj; exact (blk_cell h3 0).trans rfl
    | succ j => simp at hj
  obtain ⟨i0, hi, hi0, hi1, hi2⟩ := info_parts info3
  obtain ⟨v1, W4, hap, ho4, hg4, hnl, hat⟩ := run_append_own_at (P := Tryz.prog) W3 base 39 39 3 i0 (.int .i64 0) 1 8 Tryz.underlying39 hi hi0 hi1 hi2 rfl (by decide) v0 _ _ ho3 ⟨W1.heap.size, 0, none⟩ 1 1 [.int .i64 (i : Int)] rfl hcell (by simp [Value.oneCell']) (by unfold maxLen; omega) (by omega) (by have := h.low; have := hg3.size; omega)
  have hm4 : W4.heap[b]? = some (.map es1 clock1) := (hg4.block b (by have := hg3.size; omega) (fun e => own_not_map ho3 hm3 e.symm)).trans hm3
  obtain ⟨es', clock', hst, S⟩ := hes W4 v1 hm4
  obtain ⟨W5, hW5⟩ : ∃ W5, W5 = setBlock W4 b (.map es' clock') := ⟨_, rfl⟩
  rw [← hW5] at hst
  have hg5 : W4.grownBy W5 (some b) := by rw [hW5]; exact grown_block hm4
  have hm5 : W5.heap[b]? = some (.map es' clock') := by rw [hW5]; exact Go.ChangeMaps.heap_setBlock_same hm4 _
  have hKb : ∀ k, K k → k ≠ b := fun k q e => h.kb (e ▸ q)
  have hmv : Moves (fun k => ¬ K k) W W5 := (((Moves.of_below hb2).grown hg3 (fun k e => by cases e; exact .inl h.kb)).grown hg4 (fun k e => .inl (hK0 k e))).grown hg5 (fun k e => by cases e; exact .inl h.kb)
  have hv1K : ∀ k, v1.ownBlock = some k → ¬ K k := fun k e => by
    rcases hat with q | q
    · exact hK0 k (q ▸ e)
    · rw [q] at e
      cases e
      intro q2
      have := h.klt _ q2
      have := hg3.size
      omega
  have hbox5 : Boxed W5 bx 91 (.map (some b)) := by
    have h2 : Boxed W2 bx 91 (.map (some b)) := boxed_below h.box hb2
    have hne : bx ≠ b := fun e => by
      have := show W.heap[bx]? = _ from h.box
      rw [e, h.map] at this
      cases this
    have h3 : Boxed W3 bx 91 (.map (some b)) := h2.kept hg3 (fun e => hne (Option.some.inj e))
    have h4 : Boxed W4 bx 91 (.map (some b)) := h3.kept hg4 (fun e => by
      obtain ⟨cells, hc⟩ := own_typed ho3 bx e.symm
      have h5 := show W3.heap[bx]? = _ from h3
      rw [h5] at hc
      injection hc with hc
      injection hc with _ hc _
      revert hc; decide)
    exact h4.kept hg5 (fun e => hne (Option.some.inj e))
  have hpl := placesIn_snoc pre (f, x, i)
  have hnew : GroupsF base bx b K (pre ++ [(f, x, i)]) W5 es' clock' := by
    refine ⟨hbox5, hm5, h.kx, h.kb, fun k q => Nat.lt_of_lt_of_le (h.klt k q) hmv.size, h.low, S.stamped, by have := S.size; have := h.size; simp; omega, fun y hy => ?_, fun t hne => ?_, fun y hy z hz hne k hk => ?_⟩
    · rcases S.who y hy with ⟨hy0, hne⟩ | ⟨e1, e2⟩
      · obtain ⟨t, a1, a2, a3, a4, a5⟩ := h.who y hy0
        have htne : ¬ tmOf (f, x, i) = t := fun e => hne (a1.trans (by rw [← e]; rfl))
        have b2 := pw_own_below a4 hb2
        have b3 := b2.kept hg3 (.inr (own_not_map b2 hm2))
        have b4 := b3.kept hg4 (by
          cases hq : y.val.ownBlock with
          | none => exact .inl rfl
          | some k => exact .inr (fun e => hA0 y hy0 hne k hq e.symm))
        have b5 := b4.kept hg5 (.inr (own_not_map b4 hm4))
        refine ⟨t, a1, a2, ?_, ?_, a5⟩
        · rw [hpl, if_neg htne]; exact a3
        · rw [hpl, if_neg htne]; exact b5
      · refine ⟨(f, x), e1, ht, ?_, ?_, fun k e => hv1K k (e2 ▸ e)⟩
        · rw [hpl, if_pos (show tmOf (f, x, i) = (f, x) from rfl)]; simp
        · rw [hpl, if_pos (show tmOf (f, x, i) = (f, x) from rfl), List.length_append, List.map_append, e2]
          exact ho4.kept hg5 (.inr (own_not_map ho4 hm4))
    · by_cases e : tmOf (f, x, i) = t
      · obtain ⟨y, hy, e1, _⟩ := S.new
        exact ⟨y, hy, e1.trans (by rw [← e]; rfl)⟩
      · rw [hpl, if_neg e] at hne
        obtain ⟨y, hy, e1⟩ := h.all t hne
        exact ⟨y, S.old y hy (fun e2 => e (encT_inj (e2.symm.trans e1))), e1⟩
    · have hfar : ∀ y ∈ es.toList, y.key ≠ encT (f, x) → ∀ k, y.val.ownBlock = some k → v1.ownBlock ≠ some k := by
        intro y hy hne k hk
        rcases hat with q | q
        · rw [q]; exact hA0 y hy hne k hk
        · rw [q]
          intro e
          obtain ⟨t, _, _, _, a4, _⟩ := h.who y hy
          have := own_lt a4 k hk
          have := hg3.size
          have := Option.some.inj e
          omega
      rcases S.who y hy with ⟨hy0, hyn⟩ | ⟨ey, ev⟩ <;> rcases S.who z hz with ⟨hz0, hzn⟩ | ⟨ez, ew⟩
      · exact h.apart y hy0 z hz0 hne k hk
      · rw [ew]; exact hfar y hy0 hyn k hk
      · rw [ev] at hk
        exact fun e => hfar z hz0 hzn k e hk
      · exact (hne (ey.trans ez.symm)).elim
  have HF := Lib.hid hnew
  have HM := Lib.hid hmv
  have c1 := (boxed_below h.box hb1).cell
  have hbk : W1.heap[W.heap.size]? = some (.cells #[.string f, .string x] 70 (0, 0)) := by rw [hW1]; exact heap_alloc_new W _
  have c2 : W1.cell? ⟨W.heap.size, 0, none⟩ = some (.string f) := (blk_cell hbk 0).trans rfl
  have c3 : W1.cell? ⟨W.heap.size, 1, none⟩ = some (.string x) := (blk_cell hbk 1).trans rfl
  have HW1 := Lib.hid hW1
  rw [hW2] at hme
  have hme' : (Instr.mapEntry 91 (.map (some b)) (.agg #[.string f, .string x])).run Tryz.prog (W1.alloc (.cells #[.int .i64 (i : Int)] 3)) = .ok (.tuple #[v0, .int .i64 (st : Int)]) W3 := hme
  have hst' : (Instr.entryStore 91 (.map (some b)) (.int .i64 (st : Int)) v1).run Tryz.prog W4 = .ok () W5 := hst
  rw [hz1] at hap
  have HAP := Lib.hid hap
  clear hap hnl hme hst hnew hmv h hb1 hb2 hz2 hblt hxlt hm2 hks hkl hv0 hes hg3 hm3 ho0 hK0 hA0 hlen ho2 ho3 hcell hi hi0 hi1 hi2 ho4 hg4 hat hm4 S hg5 hm5 hKb hv1K hbox5 hpl hbk hW2 hW3 hW5 hW1 hN ht
  go_enter Tryz.func47, Tryz.ntmps47
  go_upto_region 1 with fail
  rw [← HW1.out]
  go_wp2_with (at_builtin; refine wpList_append_run rfl _ _ 39 rfl v0 _ v1 rfl rfl HAP.out ?_)
  go_end0
  exact ⟨rfl, ⟨_, _, HF.out⟩, HM.out⟩
end Go.Proofs.YteidebllianiiaaGreatDoor

/- maps.Keys of the map that is filled, and its iterator. No condition. -/
set_option linter.unusedVariables false
set_option linter.unusedSimpArgs false
namespace Go.Proofs.YteidebllianiiaaGreatDoor
open Go.RowKit Go.Shelf Go.Maps Go.Sort Go.Proofs.YteidebllianiiaaGreatDoor.PAll Go.Proofs.YteidebllianiiaaGreatDoorW.PrintWords Go.Proofs.YteidebllianiiaaGreatDoorW.PrintLast Go.Proofs.YteidebllianiiaaGreatDoorW.PrintMore
attribute [local go_sem] Oper.semAt_some

theorem lawT : Go.WideMaps.KeyLaw Tryz.prog 70 := deep_law_laid laidOutT (m := 2) (by omega) (of_decide_eq_true (by kernel_rfl)) (by kernel_rfl) (by rw [Tryz.underlying70])
/-- The terms met so far: none twice; a term is met just where the map has it and it is no longer to come. -/
structure Met (D : DataW Unit) (left : Lit → Bool) (ss : List Tm) : Prop where
  nodup : ss.Nodup
  key : ∀ t ∈ ss, ∃ kl, keyOf Tryz.prog 70 (encT t) = some kl
  mem : ∀ t kl, keyOf Tryz.prog 70 (encT t) = some kl → (t ∈ ss ↔ (Maps.has D kl = true ∧ left kl = false))
theorem Met.start (D : DataW Unit) : Met D (Maps.has D) [] := ⟨List.nodup_nil, by simp, fun t kl _ => by cases Maps.has D kl <;> simp⟩
theorem same_key {t u : Tm} {a b : Lit} (h1 : keyOf Tryz.prog 70 (encT t) = some a) (h2 : keyOf Tryz.prog 70 (encT u) = some b) : a.sameKey b = true ↔ t = u := by
  obtain ⟨s, rfl⟩ := lawT.str h1
  obtain ⟨s2, rfl⟩ := lawT.str h2
  constructor
  · intro h
    have e : s = s2 := by simpa [Lit.sameKey] using h
    subst e
    exact encT_inj (lawT.inj h1 h2)
  · rintro rfl
    have e : (some (Lit.string s)) = some (Lit.string s2) := h1.symm.trans h2
    cases e
    simp [Lit.sameKey]
theorem Met.step {D : DataW Unit} {left : Lit → Bool} {ss : List Tm} (h : Met D left ss) {t : Tm} {kl : Lit} {y : DataW Unit} (hk : keyOf Tryz.prog 70 (encT t) = some kl) (hlk : left kl = true) (hat : ∀ zd, D.atKey kl zd = y) : Met D (fun z => left z && !z.sameKey kl) (ss ++ [t]) := by
  have hhas : Maps.has D kl = true := has_true_of_atKey hat
  have hnew : t ∉ ss := fun hx => by have := ((h.mem t kl hk).1 hx).2; rw [hlk] at this; cases this
  refine ⟨List.nodup_append.2 ⟨h.nodup, by simp, fun a ha b hb => by simp at hb; subst hb; exact fun e => hnew (e ▸ ha)⟩, fun u hu => ?_, fun u ku hku => ?_⟩
  · rcases List.mem_append.1 hu with hu | hu
    · exact h.key u hu
    · rw [List.mem_singleton.1 hu]; exact ⟨kl, hk⟩
  · by_cases e : u = t
    · subst e
      have e2 : ku = kl := Option.some.inj (hku.symm.trans hk)
      subst e2
      have := (same_key hk hk).2 rfl
      simp [hhas, this]
    · have hs : ku.sameKey kl = false := by
        cases hq : ku.sameKey kl
        · rfl
        · exact (e ((same_key hku hk).1 hq)).elim
      simp [h.mem u ku hku, hs, e]
set_option maxRecDepth 100000 in
theorem lits_str {m : Nat} {a : Value} {l : List Lit} (h : Tryz.prog.keyLits m 9 [a] = some l) : ∃ s, a = .string s := by
  cases m with
  | zero => simp [Program.keyLits] at h
  | succ m =>
    unfold Program.keyLits at h
    rw [Tryz.underlying9] at h
    cases a <;> simp at h
    exact ⟨_, rfl⟩
set_option maxRecDepth 100000 in
theorem key_is {key : Value} {kl : Lit} (hk : keyOf Tryz.prog 70 key = some kl) : ∃ t, key = encT t := by
  obtain ⟨⟨xs⟩, ls, rfl, h, _⟩ := keyOf_top (by rw [Tryz.underlying70]) hk
  obtain ⟨n, hn⟩ : ∃ n, Tryz.prog.types.size = n := ⟨_, rfl⟩
  rw [hn] at h
  clear hk hn
  unfold Program.keyLits at h
  rw [Tryz.underlying70] at h
  simp only [cells_T, cells_S] at h
  split at h
  · rename_i hc
    match xs, hc.1 with
    | [a, b], _ =>
      simp [cells_S, Option.bind_eq_some_iff] at h
      obtain ⟨l1, h1, l2, ⟨l3, h2, _⟩, _⟩ := h
      obtain ⟨s1, rfl⟩ := lits_str h1
      obtain ⟨s2, rfl⟩ := lits_str h2
      exact ⟨(s1, s2), rfl⟩
  · cases h
theorem grown_alloc (w : World) (o : Obj) : w.grownBy (w.alloc o) none := ⟨rfl, rfl, rfl, by simp, fun k hk _ => Below.heap_alloc w o k hk⟩
def KeysAre (D : DataW Unit) (ss : List Tm) : Prop := ss.Nodup ∧ ∀ t, t ∈ ss ↔ ∃ kl, keyOf Tryz.prog 70 (encT t) = some kl ∧ Maps.has D kl = true
def rdNil (_ : Value) : Option (DataW Unit × List MemPlace) := some (.nil, [])
/-- A map of terms, as its iterator sees it. -/
theorem owns_groups {base bx b : Nat} {K : Nat → Prop} {pre : List Occ} {W : World} {es : Array MapEntry} {clock : Nat} (h : GroupsF base bx b K pre W es clock) (hN : pre.length ≤ 1000001000) :
    ∃ D, W.ownsMap Tryz.prog 70 rdNil b es.size D ∧ Maps.size D ≤ es.size ∧ ∀ t kl, keyOf Tryz.prog 70 (encT t) = some kl → (Maps.has D kl = true ↔ ∃ x ∈ es.toList, x.key = encT t) := by
  have F : Go.WideElems.Fit Tryz.prog 70 rdNil es clock := by
    refine ⟨by have := h.size; unfold maxLen; omega, h.stamped, fun x hx => ?_⟩
    obtain ⟨t, e, q, _⟩ := h.who x hx
    obtain ⟨kl, hkl⟩ := keyOfT t q
    exact ⟨_, by unfold Go.WideElems.rd; rw [e, hkl]; rfl⟩
  have hown : W.ownsMap Tryz.prog 70 rdNil b es.size (.map ((es.toList.map (Go.WideElems.rg Tryz.prog 70 rdNil)).foldr DataW.insert [])) := ⟨es, clock, h.map, F, Nat.le_refl _, rfl⟩
  refine ⟨_, hown, ?_, fun t kl hkl => ?_⟩
  · have := hown.size_le
    exact this
  · rcases Maps.fit_look false keyedT Tryz.underlying91 (zeroRow W) h.map F hkl with ⟨_, hno, hat⟩ | ⟨e0, y, hm0, h3, _, _, hat, _⟩
    · constructor
      · intro hh
        rw [Maps.has_false_of_atKey hat] at hh
        cases hh
      · rintro ⟨x, hx, e⟩
        exact (hno x hx e).elim
    · exact ⟨fun _ => ⟨e0, hm0, h3⟩, fun _ => has_true_of_atKey hat⟩

set_option maxRecDepth 100000 in
set_option maxHeartbeats 2000000 in
theorem keys1_in (n : Nat) (hn : 1 ≤ n) (l Bm b nn : Nat) (D0 : DataW Unit) (J : List Tm → World → Prop) (Jx : List Tm → World → Prop)
    (hY : ∀ pre x W, J pre W → pre.length < Maps.size D0 → YieldAt Fence.wide (n - 1) Tryz.prog l #[encT x] W fun e W' => (e = .returned (.bool true) ∧ J (pre ++ [x]) W' ∧ KeepsWalks W W') ∨ (e = .returned (.bool false) ∧ Jx (pre ++ [x]) W'))
    (W : World) (hJ : AbidesFrom W.heap.size J) (hm : W.cell? ⟨Bm, 0, none⟩ = some (.map (some b))) (hown : W.ownsMap Tryz.prog 70 rdNil b nn D0) (h0 : J [] W) :
    CallsIn Fence.wide n Tryz.prog 69 #[.func (.yield l) #[] #[], .pointer (some ⟨Bm, 0, none⟩)] W fun e W' => (∃ v, e = .returned v) ∧ ((∃ ss : List Tm, KeysAre D0 ss ∧ J ss W') ∨ ∃ pre, True ∧ Jx pre W') := by
  refine callsIn_of_wp Tryz.func69 rfl trivial ?_ rfl
  simp only [Tryz.ntmps69, List.size_toArray, List.length_cons, List.length_nil, Nat.reduceAdd, Nat.reduceSub, Array.replicate_succ, Array.replicate_zero, List.push_toArray, List.append_toArray, List.nil_append, List.cons_append]
  gi_wp2_with (gi_at_range; refine wpListIn_range_own _ rfl _ 91 rfl 70 39 keyedT Tryz.underlying91 _ b nn _ rfl hown ?_; intro w0 hrg0 hg0 hs0)
  go_frame
  gi_loopw [3] (fun _ wr => ∃ (left : Lit → Bool) (cnt : Nat) (ss : List Tm), wr.ranges Tryz.prog 70 rdNil b W.heap.size nn D0 left cnt ∧ ss.length + cnt ≤ Maps.size D0 ∧ Met D0 left ss ∧ J ss wr)
    (fun _ wr => wr.rangeLeft b W.heap.size)
  case atStart =>
    exact ⟨_, _, [], hrg0, by simp, Met.start D0, hJ [] W w0 none h0 hg0 (fun r e => by cases e)⟩
  case round =>
    obtain ⟨left, cnt, ss, hrg, hcs, hC, hJs⟩ := hrel
    gi_wp2_with (gi_at_next; refine wpListIn_next_ranges _ rfl _ rfl 70 keyedT rdNil encT id (fun key kl hk => key_is hk) (fun v _ _ => ⟨v, rfl⟩) b W.heap.size nn _ _ _ rfl hrg ?_ ?_)
    · intro hc0 hl0
      gi_wp2
      go_end0
      refine ⟨⟨_, rfl⟩, .inl ⟨ss, ⟨hC.nodup, fun t => ⟨fun ht => ?_, ?_⟩⟩, hJs⟩⟩
      · obtain ⟨kl, hkl⟩ := hC.key t ht
        exact ⟨kl, hkl, ((hC.mem t kl hkl).1 ht).1⟩
      · rintro ⟨kl, hkl, hh⟩
        exact (hC.mem t kl hkl).2 ⟨hh, hl0 kl⟩
    · intro x1 x2 c kl yd yp w2 cnt2 hkey hlk hv hat hrg2 hlt hg2 hs2 hen
      have hJ2 : J ss w2 := hJ ss wr w2 (some W.heap.size) hJs hg2 (fun r e => by cases e; exact ⟨Nat.le_refl _, hrg.iter_walk⟩)
      obtain ⟨X, hX⟩ : ∃ X, X = w2.alloc (.cells #[.string x1, .string x2] 70 (0, 0)) := ⟨_, rfl⟩
      have hJ3 : J ss X := by rw [hX]; exact hJ ss w2 _ none hJ2 (grown_alloc _ _) (fun r e => by cases e)
      have hbk : X.heap[w2.heap.size]? = some (.cells #[.string x1, .string x2] 70 (0, 0)) := by rw [hX]; exact heap_alloc_new w2 _
      have hkw : KeepsWalks w2 X := by rw [hX]; exact KeepsWalks.alloc _ _
      obtain ⟨fn, tmps, assign, body, hy, hR⟩ := hY ss (x1, x2) X hJ3 (by omega)
      unfold encT at hy hen
      have HR := Lib.hid hR
      have HX := Lib.hid hX
      have HBK := Lib.hid hbk
      have HKW := Lib.hid hkw
      have HAT := Lib.hid hat
      clear hs2 hR hX hbk hkw hat hv
      gi_wp2
      rw [← HX.out, hy]
      gi_wp2
      refine HR.out.mono ?_
      rintro e W3 (⟨rfl, hJ4, hk4⟩ | ⟨rfl, hJx4⟩)
      · have hrg3 := (hrg2.of_walks HKW.out).of_walks hk4
        have HRG := Lib.hid hrg3
        have HJ4 := Lib.hid hJ4
        clear hk4 hrg3 hJ4 hy hen
        gi_wp2
        go_roundw
        case rel => exact ⟨_, cnt2, ss ++ [(x1, x2)], HRG.out, by simp; omega, hC.step hkey hlk HAT.out, HJ4.out⟩
        case measure => rw [HRG.out.left_eq, hrg.left_eq]; exact hlt
      · gi_wp2
        refine bodyPost_ret (results_none rfl _ _ _) rfl ?_
        exact ⟨⟨_, rfl⟩, .inr ⟨_, trivial, hJx4⟩⟩
/-- The terms that the map has, each once. -/
theorem keys_in (n : Nat) (mb : Option Nat) (w : World) :
    CallsIn Fence.wide n Tryz.prog 49 #[.map mb] w fun e w' => e = .returned (.func (.func 69) #[] #[.pointer (some ⟨w.heap.size, 0, none⟩)]) ∧ w' = w.alloc (.cells #[.map mb] 91) := by
  refine callsIn_of_wp Tryz.func49 rfl trivial ?_ rfl
  simp only [Tryz.ntmps49, List.size_toArray, List.length_cons, List.length_nil, Nat.reduceAdd, Nat.reduceSub, Array.replicate_succ, Array.replicate_zero, List.push_toArray, List.append_toArray, List.nil_append, List.cons_append]
  gi_wp2
  go_ret
  exact ⟨rfl, rfl⟩
theorem keys_seq (n : Nat) (hn : 1 ≤ n) (Bm b nn : Nat) (D0 : DataW Unit) (w : World) (hBm : Bm < w.heap.size) (hm : w.cell? ⟨Bm, 0, none⟩ = some (.map (some b))) (hown : w.ownsMap Tryz.prog 70 rdNil b nn D0) :
    SeqStopsK Fence.wide n Tryz.prog 69 #[.pointer (some ⟨Bm, 0, none⟩)] (fun t : Tm => #[encT t]) KeepsWalks (KeysAre D0) (fun _ => True) (Maps.size D0) w := by
  intro l J Jx W hW hJ _ hY h0
  have hown' : W.ownsMap Tryz.prog 70 rdNil b nn D0 := by
    have hbl := hown.lt
    obtain ⟨es, clock, hb, Ft, hs, hD⟩ := hown
    exact ⟨es, clock, (hW.block b hbl).trans hb, Ft, hs, hD⟩
  exact keys1_in n hn l Bm b nn D0 J Jx hY W hJ ((hW.cell (p := ⟨Bm, 0, none⟩) hBm).trans hm) hown' h0
end Go.Proofs.YteidebllianiiaaGreatDoor

/- slices.AppendSeq, slices.Collect, of terms. Condition: so many at most. -/
set_option linter.unusedVariables false
set_option linter.unusedSimpArgs false
namespace Go.Proofs.YteidebllianiiaaGreatDoor
open Go.RowKit Go.Shelf Go.Maps Go.Sort Go.Proofs.YteidebllianiiaaGreatDoor.PAll Go.Proofs.YteidebllianiiaaGreatDoorW.PrintWords Go.Proofs.YteidebllianiiaaGreatDoorW.PrintLast Go.Proofs.YteidebllianiiaaGreatDoorW.PrintMore
attribute [local go_sem] Oper.semAt_some

theorem add_none (b o j : Nat) : (⟨b, o, none⟩ : Addr).add j = ⟨b, o + j, none⟩ := by
  unfold Addr.add
  split
  · subst j; rfl
  · rfl
def flatT (l : List Tm) : List Value := l.flatMap (fun t => [.string t.1, .string t.2])
theorem flatT_snoc (l : List Tm) (t : Tm) : flatT (l ++ [t]) = flatT l ++ [.string t.1, .string t.2] := by unfold flatT; rw [List.flatMap_append]; simp
theorem ownsRow_blk {W : World} {base e sz k g : Nat} {v : Value} {xs : List Value} (h : W.ownsRow base e sz v k xs) (hg : v.ownBlock = some g) : base ≤ g ∧ g < W.heap.size ∧ ∃ cur, W.heap[g]? = some (.cells cur e (0, 0)) := by
  rcases h.2 with ⟨rfl, _⟩ | ⟨g', cap, cur, rfl, hb, hg', rest⟩
  · cases hg
  · obtain rfl : g' = g := by simpa [Value.ownBlock] using hg
    exact ⟨hb, (Array.getElem?_eq_some_iff.1 hg').1, cur, hg'⟩
/-- The box holds the terms so far. -/
def TI (n₀ N1 Bo : Nat) (w : World) (pre : List Tm) (W : World) : Prop :=
  (∃ vo, Boxed W Bo 65 vo ∧ W.ownsRow N1 70 2 vo pre.length (flatT pre) ∧ True) ∧ Below n₀ w W ∧ N1 ≤ W.heap.size
theorem TI.own {n₀ N1 Bo B : Nat} {w : World} (hn : n₀ ≤ B) (hw : n₀ ≤ w.heap.size) : OwnFrom B (TI n₀ N1 Bo w) := by
  intro s X Y row hs hg hr
  exact ⟨holdsRow_own N1 Bo 65 70 2 (fun s : List Tm => s.length) flatT (fun _ _ => True) s X Y row hs.1 hg (fun r e => (hr r e).2), hs.2.1.grown hg (Nat.le_trans hw hs.2.1.size) (fun k e => Nat.le_trans hn (hr k e).1), Nat.le_trans hs.2.2 hg.size⟩
theorem term_appended {n₀ N1 Bo : Nat} {wE W w1 : World} {pre : List Tm} {vo v' : Value} {x : Tm} {tmp : Obj} (hn : n₀ ≤ Bo) (hN : Bo < N1) (hW : N1 ≤ W.heap.size) (hbo : Boxed W Bo 65 vo) (hro : W.ownsRow N1 70 2 vo pre.length (flatT pre)) (hB : Below n₀ wE W)
    (hown : w1.ownsRow N1 70 2 v' (pre.length + 1) (flatT pre ++ [.string x.1, .string x.2])) (hg : (W.alloc tmp).grownBy w1 vo.ownBlock) :
    Boxed w1 Bo 65 vo ∧ KeepsFrom N1 W (w1.setCell ⟨Bo, 0, none⟩ v') ∧ KeepsWalks W (w1.setCell ⟨Bo, 0, none⟩ v') ∧ TI n₀ N1 Bo wE (pre ++ [x]) (w1.setCell ⟨Bo, 0, none⟩ v') := by
  have hv1 : Boxed w1 Bo 65 vo := (hbo.alloc tmp).kept hg (hbo.not_row (by decide) hro)
  have hr2 := hown.kept (grownBy_setCell' w1 Bo v') (.inr (hv1.not_row (by decide) hown).symm)
  have hblk : ∀ g, vo.ownBlock = some g → N1 ≤ g := fun g hg' => (ownsRow_blk hro hg').1
  have hB2 : Below n₀ W (w1.setCell ⟨Bo, 0, none⟩ v') :=
    (((Below.refl n₀ W).alloc (by omega) tmp).grown hg (by simp; omega) (fun k hk => by have := hblk k hk; omega)).setCell (p := ⟨Bo, 0, none⟩) hn v'
  have hko : KeepsOthers W (w1.setCell ⟨Bo, 0, none⟩ v') := by
    refine (((KeepsOthers.alloc W tmp).trans (KeepsOthers.of_grownBy hg fun j o ej hj => ?_)).trans (KeepsOthers.setCell _ _ _))
    obtain ⟨_, _, cur, hc⟩ := ownsRow_blk (hro.alloc tmp) ej
    rw [hc] at hj; cases hj; rfl
  refine ⟨hv1, hko.from _, ?_, ⟨⟨v', hv1.set v', ?_, trivial⟩, hB.trans hB2, Nat.le_trans hW hB2.size⟩⟩
  · refine ((KeepsWalks.alloc W tmp).trans (KeepsWalks.of_grownBy hg fun j o ej hj => ?_)).trans (KeepsWalks.setCell _ _ _)
    obtain ⟨_, _, cur, hc⟩ := ownsRow_blk (hro.alloc tmp) ej
    rw [hc] at hj; cases hj; rfl
  · rw [flatT_snoc, List.length_append]
    exact hr2
set_option maxRecDepth 100000 in
set_option maxHeartbeats 4000000 in
theorem appendSeq_in (n : Nat) (hn : 4 ≤ n) (gf : Nat) (lb : Array Value) (eg : ∀ args w, (callFunc gf args).run Tryz.prog w = .ok (.enter gf args) w) (S : List Tm → Prop) (N : Nat) (hN : N ≤ 1000001000) (w : World)
    (hseq : SeqStopsK Fence.wide (n - 1) Tryz.prog gf lb (fun t : Tm => #[encT t]) KeepsWalks S (fun _ => True) N w) :
    CallsIn Fence.wide n Tryz.prog 91 #[.slice none 0 0, .func (.func gf) #[] lb] w fun e w' => ∃ v ss, e = .returned v ∧ S ss ∧ w'.ownsRow w.heap.size 70 2 v ss.length (flatT ss) ∧ Below w.heap.size w w' := by
  obtain ⟨i0, hi, hz0, hz1, hz2⟩ := info_parts info70
  refine callsIn_of_wp_marks Tryz.func91 rfl trivial ?_ rfl
  simp only [Tryz.ntmps91, List.size_toArray, List.length_cons, List.length_nil, Nat.reduceAdd, Nat.reduceSub, Array.replicate_succ, Array.replicate_zero, List.push_toArray, List.append_toArray, List.nil_append, List.cons_append]
  gi_wp2_with fail
  obtain ⟨wl, hwl⟩ : ∃ wl, w.alloc (.cells #[.slice none 0 0] 65) = wl := ⟨_, rfl⟩
  have hsz : wl.heap.size = w.heap.size + 1 := by rw [← hwl]; simp
  have hbl : Below w.heap.size w wl := by rw [← hwl]; exact ((Below.refl _ w).alloc (Nat.le_refl _) _)
  have B0 : Boxed wl w.heap.size 65 (.slice none 0 0) := by rw [← hwl]; exact (Boxed.new w _ _)
  have hI0 : TI w.heap.size wl.heap.size w.heap.size w [] wl := ⟨⟨_, B0, World.ownsRow_nil _ _ _ _, trivial⟩, hbl, Nat.le_refl _⟩
  rw [hwl]
  have HSZ := Lib.hid hsz
  clear hsz
  have hz1' := Lib.hid (show w.heap.size ≤ wl.heap.size from by rw [HSZ.out]; omega)
  have hz2' := Lib.hid (show w.heap.size < wl.heap.size from by rw [HSZ.out]; omega)
  refine wpIn_rangeFunc_ownH (F := Fence.wide) (n := n) rfl (by omega) (gf := gf) (lb := lb) rfl trivial eg hseq walksK_t walksK_b hbl (fun _ => rfl)
    (TI w.heap.size wl.heap.size w.heap.size w) (fun _ _ _ => False) (TI.own hz1'.out (Nat.le_refl _)) (fun _ _ _ _ _ h => h.elim) hI0
    (fun x a' W => ∃ Bx, wl.heap.size ≤ Bx ∧ W.heap[Bx]? = some (.cells #[.string x.1, .string x.2] 70 (0, 0)) ∧ a' = { tmps := #[.slice none 0 0, .func (.func gf) #[] lb, .pointer (some ⟨w.heap.size, 0, none⟩), undef, .slice none 0 0, .pointer (some ⟨Bx, 0, none⟩), .func (.func gf) #[] lb, encT x, undef, undef, undef, undef, undef], defers := [] })
    (fun x a' s A B row hs hg hr => ?hax) ?assign ?body ?done ?stop
  case hax =>
    obtain ⟨Bx, h1, h2, h3⟩ := hs
    refine ⟨Bx, h1, (hg.block Bx (Array.getElem?_eq_some_iff.1 h2).1 (fun e => ?_)).trans h2, h3⟩
    obtain ⟨_, o, ho, hc⟩ := hr Bx e.symm
    rw [h2] at ho
    cases ho
    cases hc
  case assign =>
    intro l pre x W K hI hK
    obtain ⟨⟨vo, hbo, hro, -⟩, hB, hWs⟩ := hI
    obtain ⟨W', hW'⟩ : ∃ W', W' = W.alloc (.cells #[.string x.1, .string x.2] 70 (0, 0)) := ⟨_, rfl⟩
    unfold encT
    gi_wp2
    refine hK _ _ ((KeepsOthers.alloc _ _).from _) (KeepsWalks.alloc _ _) ⟨⟨vo, hbo.alloc _, hro.alloc _, trivial⟩, hB.alloc (Nat.le_trans hz1'.out hWs) _, by simp; omega⟩ ⟨W.heap.size, hWs, heap_alloc_new W _, ?_⟩
    rfl
  case body =>
    rintro l pre x a' W hl ⟨rr, hrr⟩ ⟨⟨vo, hbo, hro, -⟩, hB, hWs⟩ ⟨Bx, hBx, hbx, rfl⟩ hlt
    have c1 := hbo.cell
    have c2 : W.cell? ⟨Bx, 0, none⟩ = some (.string x.1) := (blk_cell hbx 0).trans rfl
    have c3 : W.cell? ⟨Bx, 1, none⟩ = some (.string x.2) := (blk_cell hbx 1).trans rfl
    clear hbx hrr
    gi_wp2_with (gi_at_builtin; refine wpListIn_append_own _ rfl _ _ 65 rfl wl.heap.size 70 i0 (.agg #[.string ⟨#[]⟩, .string ⟨#[]⟩]) 2 32 Tryz.underlying65 hi hz0 hz1 hz2 rfl (by decide) _ _ _ rfl (hro.alloc _) ⟨W.heap.size, 0, none⟩ 1 1 [.string x.1, .string x.2] rfl rfl ?c1 ?c2 ?c3 ?c4 ?c5 ?_)
    case c1 =>
      intro j u hj
      match j with
      | 0 =>
        simp only [List.getElem?_cons_zero, Option.some.injEq] at hj
        subst hj
        rw [add_none]
        simp [go_sem]
      | 1 =>
        simp only [List.getElem?_cons_succ, List.getElem?_cons_zero, Option.some.injEq] at hj
        subst hj
        rw [add_none]
        simp [go_sem]
      | j + 2 => simp at hj
    case c2 => simp [Value.oneCell']
    case c3 => unfold maxLen; omega
    case c4 => omega
    case c5 => simp; omega
    intro v' w2 hown hgrow _
    obtain ⟨g', cap', rfl⟩ := ownsRow_succ hown
    obtain ⟨d1, d2, d3, d4⟩ := term_appended (Nat.le_refl _) hz2'.out hWs hbo hro hB hown hgrow
    have e1 := d1.cell
    have e2 := d1.frozen
    gi_wp2
    exact ⟨d2, d3, d4⟩
  case done =>
    rintro D xs W hD2 hS ⟨⟨vo, hbo, hro, -⟩, hB, _⟩ hK
    have hc := hbo.cell
    gi_wp2
    refine ⟨by simp, .inl ⟨_, _, rfl, run_takeDeferred hK, ?_⟩⟩
    exact ⟨_, results_tmp rfl _ _ _, vo, xs, rfl, hS, own_weaken (ownsRow_putObj hro _ hK rfl) hz1'.out, hB.trans (belowK_b (w := w) (Nat.le_refl _) W D _ _ (Nat.le_trans hz1'.out hD2) hK rfl rfl)⟩
  case stop =>
    intro D c pre W _ _ h _
    exact h.elim
theorem collect_in (n : Nat) (hn : 5 ≤ n) (gf : Nat) (lb : Array Value) (eg : ∀ args w, (callFunc gf args).run Tryz.prog w = .ok (.enter gf args) w) (S : List Tm → Prop) (N : Nat) (hN : N ≤ 1000001000) (w : World)
    (hseq : SeqStopsK Fence.wide (n - 1 - 1) Tryz.prog gf lb (fun t : Tm => #[encT t]) KeepsWalks S (fun _ => True) N w) :
    CallsIn Fence.wide n Tryz.prog 67 #[.func (.func gf) #[] lb] w fun e w' => ∃ v ss, e = .returned v ∧ S ss ∧ w'.ownsRow w.heap.size 70 2 v ss.length (flatT ss) ∧ Below w.heap.size w w' := by
  have h1 : 1 ≤ n := by omega
  refine callsIn_of_wp Tryz.func67 rfl trivial ?_ rfl
  simp only [Tryz.ntmps67, List.size_toArray, List.length_cons, List.length_nil, Nat.reduceAdd, Nat.reduceSub, Array.replicate_succ, Array.replicate_zero, List.push_toArray, List.append_toArray, List.nil_append, List.cons_append]
  gi_wp2_with fail
  refine ⟨trivial, (appendSeq_in (n - 1) (by omega) gf lb eg S N hN _ hseq).mono ?_⟩
  rintro e w' ⟨v, ss, rfl, hS, hrow, hb⟩
  have HR := Lib.hid hrow
  have HB := Lib.hid hb
  clear hrow hb
  gi_wp2
  go_ret
  exact ⟨v, ss, rfl, hS, HR.out, HB.out⟩
end Go.Proofs.YteidebllianiiaaGreatDoor

/- Terms, sorted by their keys. Condition: so many at most. -/
set_option linter.unusedVariables false
set_option linter.unusedSimpArgs false
namespace Go.Proofs.YteidebllianiiaaGreatDoor
open Go.RowKit Go.Shelf Go.Sort Go.Proofs.YteidebllianiiaaGreatDoor.PAll Go.Proofs.YteidebllianiiaaGreatDoorW.PrintWords Go.Proofs.YteidebllianiiaaGreatDoorW.PrintLast Go.Proofs.YteidebllianiiaaGreatDoorW.PrintMore

/-- A term's key. -/
def keyB (t : Tm) : List UInt8 := t.1.data.toList ++ 0 :: t.2.data.toList
def cfT (a b : Tm) : Int := Lib.compareBytes (keyB a) (keyB b)
def encK (t : Tm) : List Value := [.string t.1, .string t.2]
theorem encK_len (x : Tm) : (encK x).length = 2 := rfl
def keyS (t : Tm) : ByteArray := t.1 ++ (⟨#[0]⟩ : ByteArray) ++ t.2
theorem keyS_data (t : Tm) : (keyS t).data.toList = keyB t := by
  unfold keyS keyB
  simp [ByteArray.append_eq, ByteArray.data_append, Array.toList_append]
set_option maxHeartbeats 1000000 in
set_option maxRecDepth 100000 in
theorem key_any (t : Tm) (w : World) (h : Tiny t) : Calls Tryz.prog 27 #[.agg #[.string t.1, .string t.2]] w fun e w' => e = .returned (.string (keyS t)) ∧ w' = w.alloc (.cells #[.string t.1, .string t.2] 70) := by
  have hk : keyS t = t.1 ++ (⟨#[0]⟩ : ByteArray) ++ t.2 := rfl
  obtain ⟨a, b⟩ := t
  have h1 : ¬ (9223372036854775807 < a.size + 1) := by have := h.1; simp only at this; omega
  have h2 : ¬ (9223372036854775807 < a.size + 1 + b.size) := by have := h.1; have := h.2; simp only at *; omega
  have HK := Lib.hid hk
  clear hk h
  go_enter Tryz.func27, Tryz.ntmps27
  go_wp2_with fail
  go_ret
  exact ⟨by rw [HK.out]; rfl, rfl⟩
theorem four_grow (W : World) (o1 o2 o3 o4 : Obj) : ((((W.alloc o1).alloc o2).alloc o3).alloc o4).drew = grow (W.drewN 1) #[o1, o2, o3, o4] := by
  rw [alloc_eq_grow, alloc_eq_grow, alloc_eq_grow, alloc_eq_grow]
  show grow (grow (grow (grow W.drew #[o1]) #[o2]) #[o3]) #[o4] = _
  rw [grow_grow, grow_grow, grow_grow]; rfl
set_option maxHeartbeats 1000000 in
set_option maxRecDepth 100000 in
theorem cmp_any (a b : Tm) (W : World) (ha : Tiny a) (hb : Tiny b) :
    Calls Tryz.prog 50 #[.agg #[.string a.1, .string a.2], .agg #[.string b.1, .string b.2]] W fun e w' => e = .returned (.int .i64 (cfT a b)) ∧ ∃ q os', w' = grow (W.drewN q) os' := by
  have c1 := fun w => key_any a w ha
  have c2 := fun w => key_any b w hb
  have c3 := fun w => Tryz.strings_Compare (keyS a) (keyS b) w
  simp only [keyS_data] at c3
  have e0 : Lib.compareBytes (keyB a) (keyB b) = cfT a b := rfl
  rw [e0] at c3
  generalize cfT a b = r at *
  obtain ⟨x, y⟩ := a
  obtain ⟨x', y'⟩ := b
  dsimp only at c1 c2
  dsimp only
  generalize keyS (x, y) = k1 at *
  generalize keyS (x', y') = k2 at *
  have C1 := Lib.hid c1
  have C2 := Lib.hid c2
  have C3 := Lib.hid c3
  clear e0 c1 c2 c3 ha hb
  go_enter Tryz.func50, Tryz.ntmps50
  go_wp2_with fail
  have hw1 : W.heap.size < (W.alloc (.cells #[.string x, .string y] 70)).heap.size := by simp
  go_region_held3 (fun w' => (w'.cell? ⟨W.heap.size, 0, none⟩ = some (.string x) ∧ w'.cell? ⟨W.heap.size, 1, none⟩ = some (.string y) ∧ w'.cell? ⟨W.heap.size + 1, 0, none⟩ = some (.string x') ∧ w'.cell? ⟨W.heap.size + 1, 1, none⟩ = some (.string y')) ∧ W.heap.size + 2 ≤ w'.heap.size) (first | assumption | (simp [go_sem]; done) | go_keep)
    (first | (go_at_call 27; first | ((with_reducible refine Calls.mono (C1.out _) ?_); rintro e w' ⟨rfl, rfl⟩) | ((with_reducible refine Calls.mono (C2.out _) ?_); rintro e w' ⟨rfl, rfl⟩)) | (go_at_call 51; (with_reducible refine Calls.mono (C3.out _) ?_); rintro e w' ⟨rfl, rfl⟩))
  all_goals
    go_wp2_with fail
    go_ret
    exact ⟨rfl, 1, _, four_grow W _ _ _ _⟩

/-! ### the order -/
theorem cmpB_lt : ∀ a b : List UInt8, Lib.compareBytes a b < 0 ↔ a < b
  | [], [] => by simp [Lib.compareBytes]
  | [], b :: bs => by simp [Lib.compareBytes]
  | a :: u, [] => by simp [Lib.compareBytes]
  | a :: u, b :: bs => by
    rw [List.cons_lt_cons_iff, ← cmpB_lt u bs, show Lib.compareBytes (a :: u) (b :: bs) = if a < b then -1 else if b < a then 1 else Lib.compareBytes u bs from rfl]
    by_cases h1 : a < b
    · simp [h1]
    · by_cases h2 : b < a
      · have : a ≠ b := fun e => by subst e; exact h1 h2
        simp [h1, h2, this]
      · have : a = b := UInt8.le_antisymm (UInt8.not_lt.1 h2) (UInt8.not_lt.1 h1)
        simp [this]
theorem bytesLess_lt : ∀ a b : List UInt8, Op.bytesLess a b = true ↔ a < b
  | [], [] => by simp [Op.bytesLess]
  | [], b :: bs => by simp [Op.bytesLess]
  | a :: u, [] => by simp [Op.bytesLess]
  | a :: u, b :: bs => by
    rw [List.cons_lt_cons_iff, ← bytesLess_lt u bs]
    simp [Op.bytesLess]
def NoZero (l : List UInt8) : Prop := ∀ c ∈ l, c ≠ 0
instance (l : List UInt8) : Decidable (NoZero l) := by unfold NoZero; infer_instance
instance (t : Tm) : Decidable (Tiny t) := by unfold Tiny; infer_instance
theorem split_zero : ∀ (a b c d : List UInt8), NoZero a → NoZero c → a ++ 0 :: b = c ++ 0 :: d → a = c ∧ b = d
  | [], b, [], d, _, _, h => ⟨rfl, by simpa using h⟩
  | [], b, y :: c, d, _, h2, h => by
    have e := (List.cons.inj h).1
    exact (h2 y List.mem_cons_self e.symm).elim
  | x :: a, b, [], d, h1, _, h => by
    have e := (List.cons.inj h).1
    exact (h1 x List.mem_cons_self e).elim
  | x :: a, b, y :: c, d, h1, h2, h => by
    obtain ⟨e1, e2⟩ := List.cons.inj h
    obtain ⟨q1, q2⟩ := split_zero a b c d (fun z hz => h1 z (List.mem_cons_of_mem _ hz)) (fun z hz => h2 z (List.mem_cons_of_mem _ hz)) e2
    exact ⟨by rw [e1, q1], q2⟩
theorem bytes_of {a b : ByteArray} (h : a.data.toList = b.data.toList) : a = b := ByteArray.ext (Array.toList_inj.1 h)
theorem key_inj {t u : Tm} (h1 : NoZero t.1.data.toList) (h2 : NoZero u.1.data.toList) (h : keyB t = keyB u) : t = u := by
  obtain ⟨q1, q2⟩ := split_zero _ _ _ _ h1 h2 h
  exact Prod.ext (bytes_of q1) (bytes_of q2)
/-- Terms that may be sorted. -/
def Tk := { t : Tm // Tiny t ∧ NoZero t.1.data.toList }
instance : Inhabited Tk := ⟨⟨(ByteArray.empty, ByteArray.empty), ⟨by decide, by decide⟩, by decide⟩⟩
def cfK (a b : Tk) : Int := cfT a.1 b.1
def encS (t : Tk) : List Value := [.string t.1.1, .string t.1.2]
theorem cfK_lt (a b : Tk) : ltOf cfK a b = decide (keyB a.1 < keyB b.1) := by
  unfold ltOf cfK cfT
  rw [decide_eq_decide]
  exact cmpB_lt _ _
theorem swoK : SWO (ltOf cfK) where
  irrefl x := by rw [cfK_lt]; simp
  trans x y z h1 h2 := by
    rw [cfK_lt] at *
    simp only [decide_eq_true_eq] at *
    exact List.lt_trans h1 h2
  ntrans x y z h1 h2 := by
    rw [cfK_lt] at *
    simp only [decide_eq_false_iff_not, List.not_lt] at *
    exact List.le_trans h2 h1
theorem totK (x y : Tk) (h1 : ltOf cfK x y = false) (h2 : ltOf cfK y x = false) : x = y := by
  rw [cfK_lt] at *
  simp only [decide_eq_false_iff_not, List.not_lt] at *
  exact Subtype.ext (key_inj x.2.2 y.2.2 (List.le_antisymm h2 h1))
theorem cmpLaysK (blk off size : Nat) (w : World) : CmpLays Tryz.prog 50 #[] encS 2 cfK blk off size w :=
  fun _ _ _ _ x y => cmp_any x.1 y.1 _ x.2.1 y.2.1
end Go.Proofs.YteidebllianiiaaGreatDoor

/- Terms, each once, rising: plain. No condition. -/
set_option linter.unusedVariables false
set_option linter.unusedSimpArgs false
namespace Go.Proofs.YteidebllianiiaaGreatDoor
open Go.RowKit Go.Shelf Go.Sort Go.Proofs.YteidebllianiiaaGreatDoor.PAll Go.Proofs.YteidebllianiiaaGreatDoorW.PrintWords Go.Proofs.YteidebllianiiaaGreatDoorW.PrintLast Go.Proofs.YteidebllianiiaaGreatDoorW.PrintMore

/-- Terms with one more, where it belongs, if it is not there. -/
def insT : List Tm → Tm → List Tm
  | [], t => [t]
  | a :: l, t => if keyB t < keyB a then t :: a :: l else if a = t then a :: l else a :: insT l t
def termsOf (pre : List Occ) : List Tm := (pre.map tmOf).foldl insT []
def Rise (l : List Tm) : Prop := l.Pairwise (fun a b => keyB a < keyB b)
theorem mem_insT (l : List Tm) (t u : Tm) : u ∈ insT l t ↔ u ∈ l ∨ u = t := by
  induction l with
  | nil => simp [insT]
  | cons a l ih =>
    unfold insT
    split
    · simp only [List.mem_cons]
      constructor
      · rintro (h | h)
        · exact .inr h
        · exact .inl h
      · rintro (h | h)
        · exact .inr h
        · exact .inl h
    · split
      · rename_i h1 h2
        subst h2
        constructor
        · exact fun h => .inl h
        · rintro (h | h)
          · exact h
          · exact h ▸ List.mem_cons_self
      · rw [List.mem_cons, ih, List.mem_cons]
        constructor
        · rintro (h | h | h)
          · exact .inl (.inl h)
          · exact .inl (.inr h)
          · exact .inr h
        · rintro ((h | h) | h)
          · exact .inl h
          · exact .inr (.inl h)
          · exact .inr (.inr h)
theorem rise_insT {l : List Tm} (t : Tm) (h : Rise l) (hz : ∀ u ∈ l, NoZero u.1.data.toList) (ht : NoZero t.1.data.toList) : Rise (insT l t) := by
  induction l with
  | nil => exact List.pairwise_singleton _ _
  | cons a l ih =>
    have h2 := List.pairwise_cons.1 h
    unfold insT
    split
    · rename_i h1
      refine List.pairwise_cons.2 ⟨fun u hu => ?_, h⟩
      rcases List.mem_cons.1 hu with rfl | hu
      · exact h1
      · exact List.lt_trans h1 (h2.1 u hu)
    · split
      · exact h
      · rename_i h1 h3
        refine List.pairwise_cons.2 ⟨fun u hu => ?_, ih h2.2 (fun u hu => hz u (List.mem_cons_of_mem _ hu))⟩
        rcases (mem_insT l t u).1 hu with hu | rfl
        · exact h2.1 u hu
        · exact Classical.byContradiction fun hn => h3 (key_inj (hz a List.mem_cons_self) ht (List.le_antisymm (List.not_lt.1 h1) (List.not_lt.1 hn)))
theorem mem_termsOf (pre : List Occ) (t : Tm) : t ∈ termsOf pre ↔ ∃ o ∈ pre, tmOf o = t := by
  have h : ∀ (l : List Tm) (acc : List Tm), t ∈ l.foldl insT acc ↔ t ∈ acc ∨ t ∈ l := by
    intro l
    induction l with
    | nil => intro acc; simp
    | cons u l ih => intro acc; rw [List.foldl_cons, ih, mem_insT, List.mem_cons, or_assoc]
  unfold termsOf
  rw [h]
  simp
theorem rise_termsOf (pre : List Occ) (hz : ∀ o ∈ pre, NoZero o.1.data.toList) : Rise (termsOf pre) := by
  have h : ∀ (l : List Tm) (acc : List Tm), Rise acc → (∀ u ∈ acc, NoZero u.1.data.toList) → (∀ u ∈ l, NoZero u.1.data.toList) → Rise (l.foldl insT acc) := by
    intro l
    induction l with
    | nil => intro acc h _ _; exact h
    | cons u l ih =>
      intro acc h1 h2 h3
      refine ih _ (rise_insT u h1 h2 (h3 u List.mem_cons_self)) (fun v hv => ?_) (fun v hv => h3 v (List.mem_cons_of_mem _ hv))
      rcases (mem_insT acc u v).1 hv with hv | rfl
      · exact h2 v hv
      · exact h3 v List.mem_cons_self
  refine h _ [] List.Pairwise.nil (by simp) (fun u hu => ?_)
  obtain ⟨o, ho, rfl⟩ := List.mem_map.1 hu
  exact hz o ho
/-- Two that rise and have the same are one. -/
theorem rise_unique {a b : List Tm} (ha : Rise a) (hb : Rise b) (h : ∀ t, t ∈ a ↔ t ∈ b) : a = b := by
  have na : a.Nodup := ha.imp (fun {x y} h => by rintro rfl; exact List.lt_irrefl _ h)
  have nb : b.Nodup := hb.imp (fun {x y} h => by rintro rfl; exact List.lt_irrefl _ h)
  refine List.Perm.eq_of_pairwise (le := fun a b => keyB a < keyB b) (fun x y _ _ h1 h2 => (List.lt_irrefl _ (List.lt_trans h1 h2)).elim) ha hb ?_
  exact (List.perm_ext_iff_of_nodup na nb).2 h
def sortK (l : List Tk) : List Tk := l.mergeSort fun x y => !(ltOf cfK) y x
theorem sortK_perm (l : List Tk) : (sortK l).Perm l := List.mergeSort_perm l _
theorem sortK_len (l : List Tk) : (sortK l).length = l.length := (sortK_perm l).length_eq
theorem sortK_rise (l : List Tk) (hn : (l.map (·.1)).Nodup) : Rise ((sortK l).map (·.1)) := by
  have hs := List.pairwise_mergeSort (le := fun x y : Tk => !(ltOf cfK) y x) ?_ ?_ l
  · have hn2 : ((sortK l).map (·.1)).Nodup := ((sortK_perm l).map (·.1)).nodup_iff.2 hn
    unfold Rise
    rw [List.pairwise_map]
    have hn3 : (sortK l).Pairwise (fun a b => a.1 ≠ b.1) := by rw [← List.pairwise_map (f := fun t : Tk => t.1) (R := fun a b => a ≠ b)]; exact hn2
    refine (hs.and hn3).imp (fun {a b} ⟨h1, h2⟩ => ?_)
    simp only [Bool.not_eq_true', cfK_lt, decide_eq_false_iff_not, List.not_lt] at h1
    exact Classical.byContradiction fun hn => h2 (key_inj a.2.2 b.2.2 (List.le_antisymm h1 (List.not_lt.1 hn)))
  · intro a b c h1 h2
    simp only [Bool.not_eq_true', cfK_lt, decide_eq_false_iff_not, List.not_lt] at *
    exact List.le_trans h1 h2
  · intro a b
    simp only [cfK_lt, Bool.or_eq_true, Bool.not_eq_true', decide_eq_false_iff_not, List.not_lt]
    exact List.le_total _ _
theorem sorted_terms (l : List Tk) (pre : List Occ) (hn : (l.map (·.1)).Nodup) (hz : ∀ o ∈ pre, NoZero o.1.data.toList) (hm : ∀ t, t ∈ l.map (·.1) ↔ ∃ o ∈ pre, tmOf o = t) : (sortK l).map (·.1) = termsOf pre :=
  rise_unique (sortK_rise l hn) (rise_termsOf pre hz) (fun t => by rw [mem_termsOf, ← hm t]; exact ((sortK_perm l).map (·.1)).mem_iff)
theorem places_some (pre : List Occ) (t : Tm) : placesIn pre t ≠ [] ↔ ∃ o ∈ pre, tmOf o = t := by
  unfold placesIn
  rw [Ne, List.map_eq_nil_iff, List.filter_eq_nil_iff]
  simp
end Go.Proofs.YteidebllianiiaaGreatDoor

/- slices.SortFunc, slices.SortedFunc, of terms. Condition: so many at most. -/
set_option linter.unusedVariables false
set_option linter.unusedSimpArgs false
namespace Go.Proofs.YteidebllianiiaaGreatDoor
open Go.RowKit Go.Shelf Go.Sort Go.Proofs.YteidebllianiiaaGreatDoor.PAll Go.Proofs.YteidebllianiiaaGreatDoorW.PrintWords Go.Proofs.YteidebllianiiaaGreatDoorW.PrintLast Go.Proofs.YteidebllianiiaaGreatDoorW.PrintMore

theorem flatT_len (l : List Tm) : (flatT l).length = l.length * 2 := by
  induction l with
  | nil => rfl
  | cons t l ih => unfold flatT at *; rw [List.flatMap_cons, List.length_append, ih]; simp; omega
theorem flatT_get : ∀ (l : List Tm) (j i : Nat) (hj : j < l.length), i < 2 → (flatT l)[j * 2 + i]? = (encK l[j])[i]?
  | t :: l, 0, i, _, hi => by
    unfold flatT
    rw [List.flatMap_cons, List.getElem?_append_left (by simp; omega)]
    simp [encK]
  | t :: l, j + 1, i, hj, hi => by
    have ih := flatT_get l j i (by simpa using hj) hi
    have e : flatT (t :: l) = [.string t.1, .string t.2] ++ flatT l := by unfold flatT; rw [List.flatMap_cons]
    rw [e, List.getElem?_append_right (by simp; omega)]
    simp only [List.length_cons, List.length_nil, Nat.zero_add, Nat.reduceAdd]
    rw [show (j + 1) * 2 + i - 2 = j * 2 + i by omega, ih]
    rfl
theorem flatK_list (ys : List Tk) : (flatK encS 2 ys.toArray).toList = flatT (ys.map (·.1)) := by
  apply List.ext_getElem?
  intro t
  have hsz : (flatK encS 2 ys.toArray).size = ys.length * 2 := by simp
  by_cases ht : t < ys.length * 2
  · have hj : t / 2 < ys.length := by omega
    have h := get_flatK encS 2 ys.toArray t (by simpa using ht)
    rw [getElem!_pos _ _ (by rw [hsz]; exact ht)] at h
    rw [Array.getElem?_toList, Array.getElem?_eq_getElem (by rw [hsz]; exact ht), h]
    have e3 : ys.toArray[t / 2]! = ys[t / 2] := by simp [getElem!_pos, hj]
    rw [e3]
    have h2 := flatT_get (ys.map (·.1)) (t / 2) (t % 2) (by simpa using hj) (by omega)
    rw [show t / 2 * 2 + t % 2 = t by omega] at h2
    rw [h2, List.getElem_map]
    show some (encK ys[t / 2].1)[t % 2]! = (encK ys[t / 2].1)[t % 2]?
    rw [List.getElem?_eq_getElem (by rw [encK_len]; omega), getElem!_pos _ _ (by rw [encK_len]; omega)]
  · rw [List.getElem?_eq_none (by rw [Array.length_toList, hsz]; omega), List.getElem?_eq_none (by rw [flatT_len, List.length_map]; omega)]
theorem take_putCells_id (cur F : Array Value) (h : F.size ≤ cur.size) : (putCells id 0 F cur).toList.take F.size = F.toList := by
  apply List.ext_getElem?
  intro j
  by_cases hj : j < F.size
  · rw [List.getElem?_take_of_lt hj, Array.getElem?_toList, Array.getElem?_toList]
    simp [putCells, hj, show j < cur.size by omega]
  · rw [List.getElem?_take_eq_none (by omega), Array.getElem?_toList, Array.getElem?_eq_none (by omega)]
theorem sorted_own {w : World} {base gb cap m : Nat} {os : Array Obj} {d ys : List Tk} (ho : w.ownsRow base 70 2 (.slice (some ⟨gb, 0, none⟩) d.length cap) d.length (flatT (d.map (·.1)))) (hl : ys.length = d.length) :
    (sortWorldK encS 2 w gb 0 m ys.toArray os).ownsRow base 70 2 (.slice (some ⟨gb, 0, none⟩) d.length cap) d.length (flatT (ys.map (·.1))) ∧ w.grownBy (sortWorldK encS 2 w gb 0 m ys.toArray os) (some gb) := by
  rcases ho.2 with ⟨e0, _⟩ | ⟨g', cap', cur, e0, hge, hb, h1, h2, h3, h4⟩
  · cases e0
  cases e0
  have hgl : gb < w.heap.size := (Array.getElem?_eq_some_iff.1 hb).1
  have hF : (flatK encS 2 ys.toArray).size = d.length * 2 := by simp [hl]
  have hheap : (sortWorldK encS 2 w gb 0 m ys.toArray os).heap[gb]? = some (.cells (putCells id 0 (flatK encS 2 ys.toArray) cur) 70 (0, 0)) := by
    unfold sortWorldK
    rw [heap_grow_old _ _ (by simpa [putRowK, putRow, mapBlock, Sort.ahead] using hgl)]
    simp [putRowK, putRow, mapBlock, Sort.ahead, Array.getElem?_modify, hb, onCells]
  refine ⟨⟨by rw [flatT_len, List.length_map, hl], .inr ⟨gb, cap, _, rfl, hge, hheap, h1, h2, by simp [putCells, h3], ?_⟩⟩, ?_⟩
  · rw [← flatK_list, ← hF]
    exact take_putCells_id cur _ (by rw [hF, h3]; exact Nat.mul_le_mul_right _ h1)
  · refine ⟨rfl, rfl, rfl, by simp [sortWorldK, grow, putRowK, putRow, mapBlock, Sort.ahead], fun k hk hne => ?_⟩
    unfold sortWorldK
    rw [heap_grow_old _ _ (by simpa [putRowK, putRow, mapBlock, Sort.ahead] using hk)]
    have : gb ≠ k := fun e => hne (by rw [e])
    simp [putRowK, putRow, mapBlock, Sort.ahead, Array.getElem?_modify, this]
theorem sortFunc_own (d : List Tk) (base : Nat) (v : Value) (W : World) (ho : W.ownsRow base 70 2 v d.length (flatT (d.map (·.1)))) (hb : base ≤ W.heap.size) (hl : d.length ≤ 10000000000) :
    Calls Tryz.prog 68 #[v, .func (.func 50) #[] #[]] W fun e w' => e = .returned (.tuple #[]) ∧ w'.ownsRow base 70 2 v d.length (flatT ((sortK d).map (·.1))) ∧ Below base W w' := by
  rcases ho.2 with ⟨rfl, h0⟩ | ⟨gb, cap, cur, rfl, hge, hgb, h1, h2, h3, h4⟩
  · have hnil : d = [] := List.eq_nil_of_length_eq_zero h0
    subst hnil
    refine (AnyF.slices_SortFunc_none Tryz.sortTerm none 0 _ W).mono ?_
    rintro e w2 ⟨rfl, rfl⟩
    have e : sortK [] = [] := List.eq_nil_of_length_eq_zero (sortK_len [])
    exact ⟨rfl, by rw [e]; exact ho, Below.refl _ _⟩
  · have hgl : gb < W.heap.size := (Array.getElem?_eq_some_iff.1 hgb).1
    have hH : HoldsK encS 2 W gb 0 d.toArray := by
      intro t ht
      have hsz : (flatK encS 2 d.toArray).size = d.length * 2 := by simp
      rw [hsz] at ht
      refine ⟨?_, by simp [World.frozen?, hgb]⟩
      rw [Nat.zero_add, getElem!_pos _ _ (by rw [hsz]; exact ht)]
      have e1 : cur.toList[t]? = some (flatK encS 2 d.toArray)[t] := by
        have h5 : (cur.toList.take (d.length * 2))[t]? = (flatT (d.map (·.1)))[t]? := by rw [h4]
        rw [List.getElem?_take_of_lt ht, ← flatK_list] at h5
        rw [h5, Array.getElem?_toList, Array.getElem?_eq_getElem (by rw [hsz]; exact ht)]
      rw [Array.getElem?_toList] at e1
      show W.cell? ⟨gb, t, none⟩ = some (flatK encS 2 d.toArray)[t]
      unfold World.cell?
      simp only [hgb]
      exact e1
    have eg : ∀ args w, (callFunc 50 args).run Tryz.prog w = .ok (.enter 50 args) w := enters_of Tryz.func50 (by kernel_rfl) rfl
    have hsort := AnyQ.slices_SortFunc_total Tryz.sortTerm 2 Tryz.isAgg70 Tryz.sizeOf70 encS (fun _ => rfl) (fun x v hv => by simp [encS] at hv; rcases hv with rfl | rfl <;> rfl) cfK swoK 50 #[] gb 0 cap d.toArray W eg (cmpLaysK gb 0 _ W) hH hgl (by simp; omega) totK
    simp only [List.size_toArray] at hsort
    refine Calls.mono hsort ?_
    rintro e w2 ⟨rfl, m, os, rfl⟩
    obtain ⟨s1, s2⟩ := sorted_own (m := m) (os := os) (ys := sortK d) ho (sortK_len d)
    exact ⟨rfl, s1, (Below.refl base W).grown s2 hb (fun j hj => by cases hj; exact hge)⟩
set_option maxHeartbeats 1000000 in
set_option maxRecDepth 100000 in
theorem sortedFunc_any (gf : Nat) (lb : Array Value) (eg : ∀ args w, (callFunc gf args).run Tryz.prog w = .ok (.enter gf args) w) (S : List Tm → Prop) (N : Nat) (hN : N ≤ 1000001000) (w : World)
    (hseq : SeqStopsK Fence.wide 7 Tryz.prog gf lb (fun t : Tm => #[encT t]) KeepsWalks S (fun _ => True) N w) (hS : ∀ ss, S ss → ss.length ≤ 10000000000 ∧ ∃ d : List Tk, ss = d.map (·.1)) :
    Calls Tryz.prog 48 #[.func (.func gf) #[] lb, .func (.func 50) #[] #[]] w fun e w' => ∃ (v : Value) (d : List Tk), e = .returned v ∧ S (d.map (·.1)) ∧ w'.ownsRow w.heap.size 70 2 v d.length (flatT ((sortK d).map (·.1))) ∧ Below w.heap.size w w' := by
  have hc := Lib.hid (callsIn_wide.1 (collect_in 9 (by omega) gf lb eg S N hN w hseq))
  have HS := Lib.hid hS
  clear hS hseq eg
  go_enter Tryz.func48, Tryz.ntmps48
  go_wp2_with fail
  refine hc.out.mono ?_
  rintro e w1 ⟨v, ss, rfl, hs, ho, hb⟩
  obtain ⟨hl, d, rfl⟩ := HS.out ss hs
  rw [List.length_map] at ho hl
  have HSS := Lib.hid hs
  have HB := Lib.hid hb
  have hsf := Lib.hid (sortFunc_own d w.heap.size v w1 ho hb.size hl)
  clear hs hb ho hl HS
  go_wp2_with fail
  refine hsf.out.mono ?_
  rintro e w2 ⟨rfl, ho2, hb2⟩
  have HO := Lib.hid ho2
  have HB2 := Lib.hid (HB.out.trans hb2)
  clear ho2 hb2
  go_wp2_with fail
  go_ret
  exact ⟨v, d, rfl, HSS.out, HO.out, HB2.out⟩
end Go.Proofs.YteidebllianiiaaGreatDoor

/- doc.Weight, doc.Count. Condition: few bytes. -/
set_option linter.unusedVariables false
set_option linter.unusedSimpArgs false
namespace Go.Proofs.YteidebllianiiaaGreatDoor
open Go.RowKit Go.Proofs.YteidebllianiiaaGreatDoor.PAll Go.Proofs.YteidebllianiiaaGreatDoorW.PrintWords Go.Proofs.YteidebllianiiaaGreatDoorW.PrintLast Go.Proofs.YteidebllianiiaaGreatDoorW.PrintMore

/-- A box that counts what was told. -/
def CountAt (b : Nat) (f : List Occ → Nat) (K : Nat → Prop) (pre : List Occ) (W : World) : Prop := Boxed W b 3 (.int .i64 (f pre : Int)) ∧ ¬ K b ∧ f pre ≤ pre.length
section
variable {b : Nat} {f : List Occ → Nat} {K K' : Nat → Prop} {pre : List Occ} {W W' : World}
theorem CountAt.less (h : CountAt b f K pre W) (hk : ∀ k, K' k → K k) : CountAt b f K' pre W := ⟨h.1, fun q => h.2.1 (hk _ q), h.2.2⟩
theorem CountAt.also (h : CountAt b f K pre W) (hb : Below W.heap.size W W') : CountAt b f (Also K W W') pre W' :=
  ⟨boxed_below h.1 hb, fun q => q.elim h.2.1 (fun q => by have := h.1.lt; omega), h.2.2⟩
theorem boxed_set {t : Nat} {u v : Value} (h : Boxed W b t u) : Boxed (W.setCell ⟨b, 0, none⟩ v) b t v := by
  obtain ⟨hlt, hk⟩ := Array.getElem?_eq_some_iff.1 h
  show (W.heap.modify b _)[b]? = _
  rw [Array.getElem?_eq_getElem (by rw [Array.size_modify]; exact hlt), Array.getElem_modify_self, hk]
  rfl
end
theorem weight_fn {b : Nat} {K : Nat → Prop} {pre : List Occ} (f x : ByteArray) (i : Nat) (W : World) (h : CountAt b List.length K pre W) (hN : pre.length < 1000000000000) :
    Calls Tryz.prog 53 #[.agg #[.string f, .string x], .int .i64 (i : Int), .pointer (some ⟨b, 0, none⟩)] W fun e W' => e = .returned (.tuple #[]) ∧ CountAt b List.length K (pre ++ [(f, x, i)]) W' ∧ Moves (fun k => ¬ K k) W W' := by
  obtain ⟨h1, h2, h3⟩ := h
  have hb := below_alloc (Below.refl _ W) (.cells #[.string f, .string x] 70 (0, 0)) (Nat.le_refl _)
  have q1 := boxed_below h1 hb
  have hm := (Moves.of_below (F := fun k => ¬ K k) hb).store ⟨b, 0, none⟩ (.int .i64 ((pre.length : Int) + 1)) h2
  have q2 := boxed_set (v := .int .i64 ((pre.length : Int) + 1)) q1
  have c1 := q1.cell
  have c2 := q1.frozen
  obtain ⟨n, hn⟩ : ∃ n, n = pre.length := ⟨_, rfl⟩
  have HP := Lib.hid (show CountAt b List.length K (pre ++ [(f, x, i)]) ((W.alloc (.cells #[.string f, .string x] 70 (0, 0))).setCell ⟨b, 0, none⟩ (.int .i64 ((n : Int) + 1))) from
    ⟨by rw [hn, List.length_append]; exact q2, h2, Nat.le_refl _⟩)
  rw [← hn] at c1 hm hN
  have HM := Lib.hid hm
  clear h1 h3 q1 q2 hm hn hb
  go_enter Tryz.func53, Tryz.ntmps53
  go_wp2
  go_end0
  exact ⟨rfl, HP.out, HM.out⟩

theorem bytes_ext (a b : ByteArray) : a.toList = b.toList ↔ a = b := by
  constructor
  · intro h
    rw [ByteArray.toList_eq, ByteArray.toList_eq] at h
    exact ByteArray.ext (Array.toList_inj.1 h)
  · rintro rfl; rfl
end Go.Proofs.YteidebllianiiaaGreatDoor

/- doc.Weight, doc.Count, told. Condition: few bytes. -/
set_option linter.unusedVariables false
set_option linter.unusedSimpArgs false
namespace Go.Proofs.YteidebllianiiaaGreatDoor
open Go.RowKit Go.Proofs.YteidebllianiiaaGreatDoor.PAll Go.Proofs.YteidebllianiiaaGreatDoorW.PrintWords Go.Proofs.YteidebllianiiaaGreatDoorW.PrintLast Go.Proofs.YteidebllianiiaaGreatDoorW.PrintMore

/-- Few bytes. -/
def docOk (l : List S50) : Prop := l.length ≤ 1000 ∧ ∀ f ∈ l, f.f1.size ≤ 1000000
instance (l : List S50) : Decidable (docOk l) := by unfold docOk; infer_instance
theorem occ_len_le (l : List S50) (h : ∀ f ∈ l, f.f1.size ≤ 1000000) : (occ l).length ≤ l.length * 1000001 := by
  induction l with
  | nil => simp [occ]
  | cons f l ih =>
    have h1 := ih (fun g hg => h g (List.mem_cons_of_mem _ hg))
    have h2 := wordsT_len f.f1
    have h3 := h f List.mem_cons_self
    have e : occ (f :: l) = occF f.f0 (wordsT f.f1) ++ occ l := by unfold occ; rw [List.flatMap_cons]
    rw [e, List.length_append, occF_len, List.length_cons]
    omega
theorem docOk.occ {l : List S50} (h : docOk l) : (occ l).length ≤ 1000001000 := by
  have h1 := occ_len_le l h.2
  have h2 := h.1
  omega
theorem tells_weight (b : Nat) : Tells1 53 ⟨b, 0, none⟩ 1000001000 (fun _ _ => True) (CountAt b List.length) where
  enters := fun u v w => enters_of Tryz.func53 (by kernel_rfl) rfl _ _
  less := CountAt.less
  also := CountAt.also
  step := fun K pre f x i W h hN _ => weight_fn f x i W h (by omega)
theorem doc_lt {w : World} {A : Option Addr} {l : List S50} (hC : Kd.C k50 w A l.length l) (h0 : 0 < l.length) : ∀ ad, A = some ad → ad.block < w.heap.size := by
  obtain ⟨ad, e, c0, _⟩ := at_T50 hC (0 : Int) (by omega) (by omega)
  intro ad' e'
  rw [e] at e'
  cases e'
  have h1 := World.block_lt_of_cell? w _ c0
  rwa [show (ad.add ((0 : Int).toNat * 2)).block = ad.block by unfold Addr.add; split <;> rfl] at h1
set_option maxHeartbeats 1000000 in
set_option maxRecDepth 100000 in
theorem weight_any (id : Int) (A : Option Addr) (c : Nat) (l : List S50) (w : World) (hC : Kd.C k50 w A l.length l) (hl : docOk l) :
    Calls Tryz.prog 29 #[.agg #[.int .i64 id, .slice A l.length c]] w fun e w' => e = .returned (.int .i64 ((occ l).length : Int)) ∧ Below w.heap.size w w' := by
  have HC := Lib.hid hC
  have HL := Lib.hid hl
  clear hC hl
  go_enter Tryz.func29, Tryz.ntmps29
  have hmf := fun (w : World) (fn : Fn) (a : Value) => (rfl : (Instr.makeFunc fn #[] #[a]).run Tryz.prog w = _)
  go_wp2_with fail
  clear hmf
  obtain ⟨w1, hw1⟩ : ∃ w1, w1 = w.alloc (.cells #[.int .i64 id, .slice A l.length c] 31) := ⟨_, rfl⟩
  obtain ⟨w2, hw2⟩ : ∃ w2, w2 = w1.alloc (.cells #[.int .i64 0] 3) := ⟨_, rfl⟩
  rw [← hw1, ← hw2]
  have hz : w1.heap.size = w.heap.size + 1 := by rw [hw1]; simp
  have hb : Below w.heap.size w w2 := by
    rw [hw2]
    exact below_alloc (by rw [hw1]; exact below_alloc (Below.refl _ _) _ (Nat.le_refl _)) _ (by omega)
  have hB : Boxed w2 (w.heap.size + 1) 3 (.int .i64 0) := by
    have h := Boxed.new w1 3 (.int .i64 0)
    rw [hz, ← hw2] at h
    exact h
  have hC2 := Kd.C_below HC.out hb
  have he := each1_any (tells_weight (w.heap.size + 1)) (fun k => k < w.heap.size) id A c l w2 hC2 (fun h0 => doc_lt HC.out h0) (fun k hk => Nat.lt_of_lt_of_le hk hb.size)
    ⟨hB, by omega, Nat.le_refl _⟩ HL.out.occ (by have := HL.out.1; omega) (fun f hf => by have := HL.out.2 f hf; omega) (fun _ _ _ _ => trivial)
  have HE := Lib.hid he
  have HB := Lib.hid hb
  clear he hB hC2 hb hz hw1 hw2
  refine HE.out.mono ?_
  rintro e w3 ⟨rfl, hj, hm⟩
  have HB3 := Lib.hid (HB.out.trans (hm.toBelow (fun k hk => hk) HB.out.size))
  have c1 := hj.1.cell
  clear hj hm
  go_wp2_with fail
  go_ret
  exact ⟨rfl, HB3.out⟩
def doc_Weight.f (_a : Int) (l : List S50) : Option Int := if docOk l then some ((occ l).length : Int) else none

end Go.Proofs.YteidebllianiiaaGreatDoor

/- doc.Invert. Condition: few bytes, names without byte 0. -/
set_option linter.unusedVariables false
set_option linter.unusedSimpArgs false
namespace Go.Proofs.YteidebllianiiaaGreatDoor
open Go.RowKit Go.Shelf Go.Sort Go.Proofs.YteidebllianiiaaGreatDoor.PAll Go.Proofs.YteidebllianiiaaGreatDoorW.PrintWords Go.Proofs.YteidebllianiiaaGreatDoorW.PrintLast Go.Proofs.YteidebllianiiaaGreatDoorW.PrintMore

def namesOk (l : List S50) : Prop := ∀ f ∈ l, f.f0.size ≤ 10000000 ∧ NoZero f.f0.data.toList
instance (l : List S50) : Decidable (namesOk l) := by unfold namesOk; infer_instance
theorem words_size (s : ByteArray) (x : ByteArray) (hx : x ∈ wordsT s) : x.size ≤ 4 * s.size + 4 := by
  have key : ∀ (l : List Int) (n : Nat) (st : List ByteArray × List Int), (∀ y ∈ st.1, y.size ≤ 4 * n) → st.2.length ≤ n → (∀ y ∈ (l.foldl stepW st).1, y.size ≤ 4 * (n + l.length)) ∧ (l.foldl stepW st).2.length ≤ n + l.length := by
    intro l
    induction l with
    | nil => intro n st h1 h2; exact ⟨h1, h2⟩
    | cons c l ih =>
      intro n st h1 h2
      have h3 : (∀ y ∈ (stepW st c).1, y.size ≤ 4 * (n + 1)) ∧ (stepW st c).2.length ≤ n + 1 := by
        unfold stepW
        split
        · exact ⟨fun y hy => by have := h1 y hy; omega, by rw [List.length_append]; simp; omega⟩
        · refine ⟨fun y hy => ?_, by simp⟩
          split at hy
          · rcases List.mem_append.1 hy with hy | hy
            · have := h1 y hy; omega
            · rw [List.mem_singleton.1 hy]
              have h4 := text_length st.2
              show (⟨(text st.2).toArray⟩ : ByteArray).size ≤ _
              have h5 : (⟨(text st.2).toArray⟩ : ByteArray).size = (text st.2).length := by simp [ByteArray.size]
              omega
          · have := h1 y hy; omega
      have h5 := ih (n + 1) (stepW st c) h3.1 h3.2
      rw [List.foldl_cons, List.length_cons]
      exact ⟨fun y hy => by have := h5.1 y hy; omega, by have := h5.2; omega⟩
  unfold wordsT wordsOf at hx
  have h1 := key (signs s.data.toList ++ [32]) 0 ([], []) (by simp) (by simp)
  rw [List.foldl_append, List.foldl_cons, List.foldl_nil] at h1
  have h2 := h1.1 x hx
  have h3 := signs_length s.data.toList
  have h4 : s.data.toList.length = s.size := Array.length_toList
  rw [List.length_append] at h2
  simp at h2
  omega
theorem occ_mem {l : List S50} {o : Occ} (h : o ∈ occ l) : ∃ f ∈ l, o.1 = f.f0 ∧ o.2.1 ∈ wordsT f.f1 := by
  unfold occ at h
  obtain ⟨f, hf, ho⟩ := List.mem_flatMap.1 h
  unfold occF at ho
  obtain ⟨x, hx, rfl⟩ := List.mem_map.1 ho
  refine ⟨f, hf, rfl, ?_⟩
  obtain ⟨a, b⟩ := x
  exact (List.mem_zipIdx_iff_getElem?.1 hx) |> List.mem_of_getElem?
theorem occ_tiny {l : List S50} (h1 : docOk l) (h2 : namesOk l) {o : Occ} (h : o ∈ occ l) : Tiny (tmOf o) ∧ NoZero (tmOf o).1.data.toList := by
  obtain ⟨f, hf, e1, e2⟩ := occ_mem h
  have h3 := words_size _ _ e2
  have h4 := h1.2 f hf
  have h5 := h2 f hf
  refine ⟨⟨by show o.1.size ≤ _; rw [e1]; exact h5.1, by show o.2.1.size ≤ _; omega⟩, by show NoZero o.1.data.toList; rw [e1]; exact h5.2⟩
theorem tells_groups (base bx b : Nat) : Tells1 47 ⟨bx, 0, none⟩ 1000001000 (fun f x => Tiny (f, x)) (GroupsAt base bx b) where
  enters := fun u v w => enters_of Tryz.func47 (by kernel_rfl) rfl _ _
  less := GroupsAt.less
  also := GroupsAt.also
  step := fun K pre f x i W h hN ht => groups_fn f x i W h hN ht
theorem groups_start {base bx b : Nat} {K : Nat → Prop} {W : World} (h1 : Boxed W bx 91 (.map (some b))) (h2 : W.heap[b]? = some (.map #[] 0)) (h3 : ¬ K bx) (h4 : ¬ K b) (h5 : ∀ k, K k → k < W.heap.size) (h6 : base ≤ b) : GroupsAt base bx b K [] W :=
  ⟨#[], 0, h1, h2, h3, h4, h5, h6, Go.MapKept.stamped_empty 0, Nat.le_refl _, fun x hx => by simp at hx, fun t ht => (ht rfl).elim, fun x hx => by simp at hx⟩
/-- The values that the map has, term by term. -/
theorem groups_vals {base bx b : Nat} {K : Nat → Prop} {pre : List Occ} {W : World} {es : Array MapEntry} {clock : Nat} (h : GroupsF base bx b K pre W es clock) :
    ∀ l : List Tm, l.Nodup → (∀ t ∈ l, placesIn pre t ≠ []) → ∃ vs : List Value, vs.length = l.length ∧ (∀ i (hi : i < l.length) (hv : i < vs.length), (∃ x ∈ es.toList, x.key = encT l[i] ∧ x.val = vs[i]) ∧ W.ownsRow base 3 1 vs[i] (placesIn pre l[i]).length ((placesIn pre l[i]).map (Value.int .i64))) ∧
      (∀ i j (hi : i < vs.length) (hj : j < vs.length), i ≠ j → ∀ k, vs[i].ownBlock = some k → vs[j].ownBlock ≠ some k) := by
  intro l hn hp
  have hex : ∀ t, ∃ v, placesIn pre t ≠ [] → (∃ x ∈ es.toList, x.key = encT t ∧ x.val = v) ∧ W.ownsRow base 3 1 v (placesIn pre t).length ((placesIn pre t).map (Value.int .i64)) := by
    intro t
    by_cases ht : placesIn pre t ≠ []
    · obtain ⟨x, hx, e⟩ := h.all t ht
      obtain ⟨u, e2, _, _, q, _⟩ := h.who x hx
      obtain rfl := encT_inj (e2.symm.trans e)
      exact ⟨x.val, fun _ => ⟨⟨x, hx, e, rfl⟩, q⟩⟩
    · exact ⟨undef, fun q => (ht q).elim⟩
  obtain ⟨g, hg⟩ := Classical.axiomOfChoice hex
  refine ⟨l.map g, by simp, fun i hi hv => ?_, fun i j hi hj hij k hk => ?_⟩
  · rw [List.getElem_map]
    exact hg l[i] (hp _ (List.getElem_mem hi))
  · rw [List.getElem_map] at hk ⊢
    have hi' : i < l.length := by simpa using hi
    have hj' : j < l.length := by simpa using hj
    obtain ⟨⟨x, hx, ex, vx⟩, _⟩ := hg l[i] (hp _ (List.getElem_mem hi'))
    obtain ⟨⟨y, hy, ey, vy⟩, _⟩ := hg l[j] (hp _ (List.getElem_mem hj'))
    rw [← vx] at hk
    rw [← vy]
    refine h.apart x hx y hy (fun e => ?_) k hk
    rw [ex, ey] at e
    have := encT_inj e
    rcases Nat.lt_trichotomy i j with q | q | q
    · exact List.pairwise_iff_getElem.1 hn i j hi' hj' q this
    · exact hij q
    · exact List.pairwise_iff_getElem.1 hn j i hj' hi' q this.symm
end Go.Proofs.YteidebllianiiaaGreatDoor

/- doc.Invert, walked. Condition: few bytes, names without byte 0. -/
set_option linter.unusedVariables false
set_option linter.unusedSimpArgs false
namespace Go.Proofs.YteidebllianiiaaGreatDoor
open Go.RowKit Go.Shelf Go.Sort Go.Proofs.YteidebllianiiaaGreatDoor.PAll Go.Proofs.YteidebllianiiaaGreatDoorW.PrintWords Go.Proofs.YteidebllianiiaaGreatDoorW.PrintLast Go.Proofs.YteidebllianiiaaGreatDoorW.PrintMore

theorem nodup_len : ∀ (l m : List Tm), l.Nodup → (∀ t ∈ l, t ∈ m) → l.length ≤ m.length
  | [], _, _, _ => Nat.zero_le _
  | a :: l, m, h, hs => by
    obtain ⟨h1, h2⟩ := List.nodup_cons.1 h
    have ha := hs a List.mem_cons_self
    have ih := nodup_len l (m.filter (fun t => decide (t ≠ a))) h2 (fun t ht => List.mem_filter.2 ⟨hs t (List.mem_cons_of_mem _ ht), decide_eq_true (fun e => h1 (by rw [← e]; exact ht))⟩)
    have hl : (m.filter (fun t => decide (t ≠ a))).length < m.length := List.length_filter_lt_length_iff_exists.2 ⟨a, ha, by simp⟩
    rw [List.length_cons]; omega
theorem row_terms {base : Nat} {v : Value} {T : List Tm} {w : World} (h : w.ownsRow base 70 2 v T.length (flatT T)) : ∃ AT cT, v = .slice AT T.length cT ∧ ∀ i, i < T.length → ∃ g, AT = some ⟨g, 0, none⟩ ∧ g < w.heap.size ∧ w.cell? ⟨g, i * 2, none⟩ = some (.string (T.getD i (ByteArray.empty, ByteArray.empty)).1) ∧ w.cell? ⟨g, i * 2 + 1, none⟩ = some (.string (T.getD i (ByteArray.empty, ByteArray.empty)).2) := by
  rcases h.2 with ⟨rfl, h0⟩ | ⟨g, cap, cur, rfl, _, hg, h1, h2, h3, h4⟩
  · exact ⟨none, 0, by rw [h0], fun i hi => by omega⟩
  · refine ⟨some ⟨g, 0, none⟩, cap, rfl, fun i hi => ⟨g, rfl, (Array.getElem?_eq_some_iff.1 hg).1, ?_⟩⟩
    have hc : ∀ k, k < 2 → w.cell? ⟨g, i * 2 + k, none⟩ = (encK T[i])[k]? := by
      intro k hk
      rw [← flatT_get T i k hi hk, ← h4, List.getElem?_take_of_lt (by omega)]
      unfold World.cell?
      simp [hg]
    have hd : T.getD i (ByteArray.empty, ByteArray.empty) = T[i] := by rw [List.getD_eq_getElem?_getD, List.getElem?_eq_getElem hi]; rfl
    rw [hd]
    exact ⟨hc 0 (by omega), hc 1 (by omega)⟩
theorem key_unique {es : Array MapEntry} {clock : Nat} (h : Go.MapKept.Stamped es clock) {x y : MapEntry} (hx : x ∈ es.toList) (hy : y ∈ es.toList) (e : x.key = y.key) : x = y := by
  obtain ⟨i, li, ei⟩ := List.mem_iff_getElem.1 hx
  obtain ⟨j, lj, ej⟩ := List.mem_iff_getElem.1 hy
  have h5 := List.pairwise_iff_getElem.1 h.2.2
  rcases Nat.lt_trichotomy i j with q | q | q
  · exact (h5 i j (by simpa using li) (by simpa using lj) q (by simp only [List.getElem_map, ei, ej]; exact e)).elim
  · subst q; rw [← ei, ← ej]
  · exact (h5 j i (by simpa using lj) (by simpa using li) q (by simp only [List.getElem_map, ei, ej]; exact e.symm)).elim
theorem infoRow : (Tryz.prog.info? 39).map (fun i => (i.zero, i.size, i.bytes)) = some (some (.slice none 0 0), 1, 24) := by kernel_rfl
set_option maxHeartbeats 4000000 in
set_option maxRecDepth 100000 in
theorem invert_raw (id : Int) (A : Option Addr) (c : Nat) (l : List S50) (w : World) (hC : Kd.C k50 w A l.length l) (hl : docOk l) (hn : namesOk l) :
    Calls Tryz.prog 26 #[.agg #[.int .i64 id, .slice A l.length c]] w fun e w' => ∃ (v u : Value) (vs : List Value), e = .returned (.tuple #[v, u]) ∧
      w'.ownsRow w.heap.size 70 2 v (termsOf (occ l)).length (flatT (termsOf (occ l))) ∧ w'.ownsRow w.heap.size 39 1 u vs.length vs ∧ vs.length = (termsOf (occ l)).length ∧
      (∀ i (hi : i < (termsOf (occ l)).length) (hv : i < vs.length), w'.ownsRow w.heap.size 3 1 vs[i] (placesIn (occ l) (termsOf (occ l))[i]).length ((placesIn (occ l) (termsOf (occ l))[i]).map (Value.int .i64))) ∧
      (∀ i j (hi : i < vs.length) (hj : j < vs.length), i ≠ j → ∀ k, vs[i].ownBlock = some k → vs[j].ownBlock ≠ some k) ∧ Below w.heap.size w w' := by
  have hmm := @run_makeMap Tryz.prog
  have HC := Lib.hid hC
  have HL := Lib.hid hl
  have HN := Lib.hid hn
  clear hC hl hn
  obtain ⟨pre, hpre⟩ : ∃ pre, pre = occ l := ⟨_, rfl⟩
  rw [← hpre]
  obtain ⟨T, hT⟩ : ∃ T, T = termsOf pre := ⟨_, rfl⟩
  rw [← hT]
  have HPRE := Lib.hid hpre
  have HTE := Lib.hid hT
  clear hpre hT
  go_enter Tryz.func26, Tryz.ntmps26
  have hmf := fun (w : World) (fn : Fn) (a : Value) => (rfl : (Instr.makeFunc fn #[] #[a]).run Tryz.prog w = _)
  go_wp2_with fail
  clear hmf hmm
  obtain ⟨w1, hw1⟩ : ∃ w1, w1 = w.alloc (.cells #[.int .i64 id, .slice A l.length c] 31) := ⟨_, rfl⟩
  obtain ⟨w2, hw2⟩ : ∃ w2, w2 = w1.alloc (.map #[] 0) := ⟨_, rfl⟩
  obtain ⟨w3, hw3⟩ : ∃ w3, w3 = w2.alloc (.cells #[.map (some (w.heap.size + 1))] 91) := ⟨_, rfl⟩
  rw [← hw1, ← hw2, ← hw3]
  have hz1 : w1.heap.size = w.heap.size + 1 := by rw [hw1]; simp
  have hz2 : w2.heap.size = w.heap.size + 1 + 1 := by rw [hw2]; simp [hz1]
  have hz3 : w3.heap.size = w.heap.size + 1 + 1 + 1 := by rw [hw3]; simp [hz2]
  have hb3 : Below w.heap.size w w3 := by
    rw [hw3]
    refine below_alloc ?_ _ (by omega)
    rw [hw2]
    refine below_alloc ?_ _ (by omega)
    rw [hw1]
    exact below_alloc (Below.refl _ _) _ (Nat.le_refl _)
  have hbox : Boxed w3 (w.heap.size + 1 + 1) 91 (.map (some (w.heap.size + 1))) := by
    have h := Boxed.new w2 91 (.map (some (w.heap.size + 1)))
    rw [hz2, ← hw3] at h
    exact h
  have hmap : w3.heap[w.heap.size + 1]? = some (.map #[] 0) := by
    have h := heap_alloc_new w1 (.map #[] 0)
    rw [← hw2, hz1] at h
    rw [hw3]
    exact (Below.heap_alloc w2 _ _ (by omega)).trans h
  obtain ⟨bx, hbx⟩ : ∃ bx, bx = w.heap.size + 1 + 1 := ⟨_, rfl⟩
  obtain ⟨b, hb⟩ : ∃ b, b = w.heap.size + 1 := ⟨_, rfl⟩
  rw [← hbx, ← hb] at hbox
  rw [← hb] at hmap
  rw [← hbx]
  have hJ0 : GroupsAt w.heap.size bx b (fun k => k < w.heap.size) [] w3 := groups_start hbox hmap (by omega) (by omega) (fun k hk => Nat.lt_of_lt_of_le hk hb3.size) (by omega)
  have he := each1_any (tells_groups w.heap.size bx b) (fun k => k < w.heap.size) id A c l w3 (Kd.C_below HC.out hb3) (fun h0 => doc_lt HC.out h0) (fun k hk => Nat.lt_of_lt_of_le hk hb3.size)
    hJ0 HL.out.occ (by have := HL.out.1; omega) (fun f hf => by have := HL.out.2 f hf; omega) (fun f hf x hx => ⟨(HN.out f hf).1, by have := words_size _ _ hx; have := HL.out.2 f hf; show x.size ≤ _; omega⟩)
  have hpl := HL.out.occ
  have hpt : ∀ o ∈ pre, Tiny (tmOf o) ∧ NoZero (tmOf o).1.data.toList := fun o ho => occ_tiny HL.out HN.out (HPRE.out ▸ ho)
  rw [← HPRE.out] at he hpl
  have HE := Lib.hid he
  have HB3 := Lib.hid hb3
  have HPL := Lib.hid hpl
  have HPT := Lib.hid hpt
  clear he hb3 hJ0 hmap hbox hz1 hz2 hz3 hw1 hw2 hw3 hbx hb hpl hpt HC HL HN HPRE
  refine HE.out.mono ?_
  rintro e w4 ⟨rfl, hj, hm⟩
  have HB4 := Lib.hid (HB3.out.trans (hm.toBelow (fun k hk => hk) HB3.out.size))
  obtain ⟨es, clock, hg⟩ := hj
  have c4 := hg.box.cell
  have HG := Lib.hid hg
  clear hm hg HE HB3
  go_wp2_with fail
  refine (callsIn_wide.1 (keys_in 1 (some b) w4)).mono ?_
  rintro e w5 ⟨rfl, hw5⟩
  have hb5 : Below w4.heap.size w4 w5 := by rw [hw5]; exact below_alloc (Below.refl _ _) _ (Nat.le_refl _)
  have hB5 : Boxed w5 w4.heap.size 91 (.map (some b)) := by rw [hw5]; exact Boxed.new w4 _ _
  have HW5 := Lib.hid hw5
  obtain ⟨D, hD, hDs, hDm⟩ := owns_groups HG.out HPL.out
  have hown5 : w5.ownsMap Tryz.prog 70 rdNil b es.size D := by
    have hbl := hD.lt
    obtain ⟨es', clock', hb', Ft, hs', hD'⟩ := hD
    exact ⟨es', clock', (hb5.block b hbl).trans hb', Ft, hs', hD'⟩
  have hseq := keys_seq 7 (by omega) w4.heap.size b es.size D w5 hB5.lt hB5.cell hown5
  have hes := HG.out.size
  have hkeys : ∀ ss, KeysAre D ss → ss.Nodup ∧ ∀ t, t ∈ ss ↔ ∃ o ∈ pre, tmOf o = t := by
    intro ss hs
    refine ⟨hs.1, fun t => ?_⟩
    rw [hs.2 t]
    constructor
    · rintro ⟨kl, hk, hh⟩
      obtain ⟨x, hx, e⟩ := (hDm t kl hk).1 hh
      obtain ⟨u, e2, _, q, _⟩ := HG.out.who x hx
      obtain rfl := encT_inj (e2.symm.trans e)
      exact (places_some pre u).1 q
    · intro h
      obtain ⟨o, ho, e⟩ := h
      obtain ⟨kl, hk⟩ := keyOfT t (e ▸ (HPT.out o ho).1)
      obtain ⟨x, hx, e3⟩ := HG.out.all t ((places_some pre t).2 ⟨o, ho, e⟩)
      exact ⟨kl, hk, (hDm t kl hk).2 ⟨x, hx, e3⟩⟩
  have hlift : ∀ ss : List Tm, (∀ t ∈ ss, Tiny t ∧ NoZero t.1.data.toList) → ∃ d : List Tk, ss = d.map (·.1) := by
    intro ss
    induction ss with
    | nil => intro _; exact ⟨[], rfl⟩
    | cons t ss ih =>
      intro h
      obtain ⟨d, hd⟩ := ih (fun u hu => h u (List.mem_cons_of_mem _ hu))
      exact ⟨(⟨t, h t List.mem_cons_self⟩ : Tk) :: d, congrArg (t :: ·) hd⟩
  have hlen : ∀ ss, KeysAre D ss → ss.length ≤ 1000001000 := by
    intro ss hs
    obtain ⟨h1, h2⟩ := hkeys ss hs
    have h3 : ss.length ≤ (pre.map tmOf).length := by
      refine nodup_len ss _ h1 (fun t ht => ?_)
      obtain ⟨o, ho, e⟩ := (h2 t).1 ht
      exact List.mem_map.2 ⟨o, ho, e⟩
    rw [List.length_map] at h3
    have := HPL.out
    omega
  have hsf := sortedFunc_any 69 #[.pointer (some ⟨w4.heap.size, 0, none⟩)] (enters_of Tryz.func69 (by kernel_rfl) rfl) (KeysAre D) (Maps.size D) (by have := HPL.out; omega) w5 hseq
    (fun ss hs => ⟨by have := hlen ss hs; omega, hlift ss (fun t ht => by
      obtain ⟨o, ho, e⟩ := ((hkeys ss hs).2 t).1 ht
      exact e ▸ HPT.out o ho)⟩)
  have HSF := Lib.hid hsf
  have HKEY := Lib.hid hkeys
  have HLEN := Lib.hid hlen
  have HB5 := Lib.hid hb5
  clear hsf hkeys hlift hlen hseq hown5 hB5 hD hDs hDm hes hb5 hw5
  rw [HW5.out]
  go_wp2_with fail
  rw [← HW5.out]
  refine HSF.out.mono ?_
  rintro e w6 ⟨v, d, rfl, hs, ho6, hb6⟩
  obtain ⟨hk1, hk2⟩ := HKEY.out _ hs
  have hle := HLEN.out _ hs
  have hst := sorted_terms d pre hk1 (fun o ho => (HPT.out o ho).2) hk2
  have hsl := sortK_len d
  rw [hst] at ho6
  have hnt : (termsOf pre).length = d.length := by rw [← hst, List.length_map, hsl]
  have hT := HTE.out
  rw [← hT] at ho6 hnt hst
  rw [← hnt] at ho6
  have hTn : T.Nodup := by
    rw [← hst]
    exact ((sortK_perm d).map (·.1)).nodup_iff.2 hk1
  have hTp : ∀ t ∈ T, placesIn pre t ≠ [] := fun t ht => (places_some pre t).2 ((mem_termsOf pre t).1 (hT ▸ ht))
  have hTt : ∀ t ∈ T, Tiny t := fun t ht => by
    obtain ⟨o, ho, e⟩ := (mem_termsOf pre t).1 (hT ▸ ht)
    exact e ▸ (HPT.out o ho).1
  obtain ⟨vs, hv1, hv2, hv3⟩ := groups_vals HG.out T hTn hTp
  have hTl : T.length ≤ 1000001000 := by rw [List.length_map] at hle; omega
  have hb46 : Below w4.heap.size w4 w6 := HB5.out.trans (hb6.mono HB5.out.size)
  have c6 : w6.cell? ⟨bx, 0, none⟩ = some (.map (some b)) := cell_stay2 hb46 c4
  have hm6 : w6.heap[b]? = some (.map es clock) := (hb46.block b (Array.getElem?_eq_some_iff.1 HG.out.map).1).trans HG.out.map
  have ho6' := own_weaken ho6 (Nat.le_trans HB4.out.size HB5.out.size)
  have HO6 := Lib.hid ho6'
  have HM6 := Lib.hid hm6
  have HV1 := Lib.hid hv1
  have HV2 := Lib.hid hv2
  have HV3 := Lib.hid hv3
  have HTT := Lib.hid hTt
  have HB6 := Lib.hid (HB4.out.trans (hb46.mono HB4.out.size))
  have HB46 := Lib.hid hb46
  have HC6 := Lib.hid c6
  obtain ⟨i0, hi, hi0, hi1, hi2⟩ := info_parts infoRow
  have HI := Lib.hid (And.intro hi (And.intro hi0 (And.intro hi1 hi2)))
  clear hs hk1 hk2 hle hst hsl hnt hT hTn hTp hTt hv1 hv2 hv3 hb46 hm6 ho6 ho6' hb6 c4 c6 hi hi0 hi1 hi2 HSF HKEY HLEN HW5
  obtain ⟨AT, cT, rfl, hcT⟩ : ∃ AT cT, v = .slice AT T.length cT ∧ ∀ i, i < T.length → ∃ g, AT = some ⟨g, 0, none⟩ ∧ g < w6.heap.size ∧ w6.cell? ⟨g, i * 2, none⟩ = some (.string (T.getD i (ByteArray.empty, ByteArray.empty)).1) ∧ w6.cell? ⟨g, i * 2 + 1, none⟩ = some (.string (T.getD i (ByteArray.empty, ByteArray.empty)).2) := by
    exact row_terms HO6.out
  have HCT := Lib.hid hcT
  clear hcT
  go_upto_region 6 with fail
  go_loopw [6, 18] (fun v6 v18 wr => ∃ i : Nat, v18 = .int .i64 (i : Int) ∧ i ≤ T.length ∧ wr.ownsRow w6.heap.size 39 1 v6 i (vs.take i) ∧ Below w6.heap.size w6 wr) (fun _ v18 _ => T.length - (intOf v18).toNat)
  case atStart => exact ⟨0, rfl, by omega, by simpa using World.ownsRow_nil w6 _ _ _, Below.refl _ _⟩
  case round =>
    obtain ⟨i, rfl, hile, ho, hbw⟩ := hrel
    by_cases hlt : i < T.length
    · have g1 : (i : Int) < (T.length : Int) := by omega
      obtain ⟨g, rfl, hgl, c0, c1⟩ := HCT.out i hlt
      have hd : T.getD i (ByteArray.empty, ByteArray.empty) = T[i] := by rw [List.getD_eq_getElem?_getD, List.getElem?_eq_getElem hlt]; rfl
      rw [hd] at c0 c1
      have hvl : i < vs.length := by rw [HV1.out]; exact hlt
      obtain ⟨⟨x, hx, ex, vx⟩, hrow⟩ := HV2.out i hlt hvl
      have htn := HTT.out _ (List.getElem_mem hlt)
      have htk : vs.take (i + 1) = vs.take i ++ [vs[i]] := List.take_succ_eq_append_getElem hvl
      obtain ⟨X, hX⟩ : ∃ X, X = vs[i] := ⟨_, rfl⟩
      obtain ⟨t, ht⟩ : ∃ t, t = T[i] := ⟨_, rfl⟩
      rw [← ht] at c0 c1 ex htn hrow
      rw [← hX] at vx htk hrow
      obtain ⟨a, y⟩ := t
      have e0 := cell_stay2 hbw c0
      have e1 := cell_stay2 hbw c1
      have e2 := cell_stay2 hbw HC6.out
      have hmr : wr.heap[b]? = some (.map es clock) := (hbw.block b (Array.getElem?_eq_some_iff.1 HM6.out).1).trans HM6.out
      have hks : ∀ y ∈ es.toList, ∃ l, keyOf Tryz.prog 70 y.key = some l := fun y hy => by
        obtain ⟨t, e, q, _⟩ := HG.out.who y hy
        rw [e]; exact keyOfT t q
      obtain ⟨kl, hkl⟩ := keyOfT (a, y) htn
      obtain ⟨W1, hW1⟩ : ∃ W1, W1 = wr.alloc (.cells #[.string a, .string y] 70 (0, 0)) := ⟨_, rfl⟩
      have hb1 : Below wr.heap.size wr W1 := by rw [hW1]; exact below_alloc (Below.refl _ _) _ (Nat.le_refl _)
      have hm1 : W1.heap[b]? = some (.map es clock) := (hb1.block b (Array.getElem?_eq_some_iff.1 hmr).1).trans hmr
      have hlk : (Instr.lookup 91 (.map (some b)) (.agg #[.string a, .string y]) false).run Tryz.prog W1 = .ok X W1 := by
        rcases look_raw keyedT Tryz.underlying91 zeroRow hm1 hks hkl with ⟨_, hno⟩ | ⟨e9, he9, hk9, hr9⟩
        · exact (hno x hx ex).elim
        · have := key_unique HG.out.stamped he9 hx (hk9.trans ex.symm)
          subst this
          rw [← vx]
          exact hr9
      have hbk : W1.heap[wr.heap.size]? = some (.cells #[.string a, .string y] 70 (0, 0)) := by rw [hW1]; exact heap_alloc_new wr _
      have d0 : W1.cell? ⟨wr.heap.size, 0, none⟩ = some (.string a) := (blk_cell hbk 0).trans rfl
      have d1 : W1.cell? ⟨wr.heap.size, 1, none⟩ = some (.string y) := (blk_cell hbk 1).trans rfl
      have d2 := cell_stay2 hb1 e2
      obtain ⟨AX, nX, cX, hXe⟩ : ∃ AX nX cX, X = .slice AX nX cX := by
        rcases hrow.2 with ⟨e, _⟩ | ⟨g', cap', cur', e, _⟩
        · exact ⟨_, _, _, e⟩
        · exact ⟨_, _, _, e⟩
      rw [hXe] at hlk htk
      have ho1 := pw_own_below ho hb1
      have HO1 := Lib.hid ho1
      have HTK := Lib.hid htk
      have HBW := Lib.hid (hbw.trans (hb1.mono hbw.size))
      have HW1 := Lib.hid hW1
      clear ho ho1 htk hbw hb1 hW1 hbk hm1 hks hkl hmr hX ht ex vx hx htn hrow hvl hd c0 c1 e2 hXe
      go_upto_region 8 with fail
      rw [← HW1.out]
      obtain ⟨hi0, hj0, hj1, hj2⟩ := HI.out
      go_wp2_with (at_builtin; refine wpList_append_own_at _ rfl _ _ 66 rfl w6.heap.size 39 i0 (.slice none 0 0) 1 24 Tryz.underlying66 hi0 hj0 hj1 hj2 rfl (by decide) _ _ _ rfl (HO1.out.alloc _) ⟨W1.heap.size, 0, none⟩ 1 1 [.slice AX nX cX] rfl rfl ?c1 ?c2 ?c3 ?c4 ?c5 ?_)
      case c2 => simp [Value.oneCell']
      case c3 => unfold maxLen; omega
      case c4 => omega
      case c5 => have := HBW.out.size; simp; omega
      intro v7 w7 ho7 hg7 hn7 hat7
      have hb7 : Below w6.heap.size w6 w7 := (below_alloc HBW.out _ HBW.out.size).grown hg7 (by have := HBW.out.size; simp; omega) (fun k e => (ownsRow_blk HO1.out e).1)
      rw [← HTK.out] at ho7
      have HO7 := Lib.hid ho7
      have HB7 := Lib.hid hb7
      clear ho7 hg7 hn7 hat7 hb7
      go_wp2_with fail
      go_roundw
      case rel => exact ⟨i + 1, by go_num, by omega, HO7.out, HB7.out⟩
      case measure => simp only [intOf]; omega
    · obtain rfl : i = T.length := by omega
      rw [← HV1.out, List.take_length] at ho
      have HB8 := Lib.hid (HB6.out.trans (hbw.mono HB6.out.size))
      have HO8 := Lib.hid (own_weaken ho HB6.out.size)
      have HO9 := Lib.hid (pw_own_below HO6.out hbw)
      have HR9 := Lib.hid (fun i (hi : i < T.length) (hv : i < vs.length) => pw_own_below (HV2.out i hi hv).2 (HB46.out.trans (hbw.mono HB46.out.size)))
      clear ho hbw
      go_wp2_with fail
      go_ret2
      exact ⟨_, _, vs, rfl, HO9.out, HO8.out, HV1.out, HR9.out, HV3.out, HB8.out⟩
end Go.Proofs.YteidebllianiiaaGreatDoor

/- doc.Invert, told. Condition: few bytes, names without byte 0. -/
set_option linter.unusedVariables false
set_option linter.unusedSimpArgs false
namespace Go.Proofs.YteidebllianiiaaGreatDoor
open Go.RowKit Go.Shelf Go.Sort Go.Proofs.YteidebllianiiaaGreatDoor.PAll Go.Proofs.YteidebllianiiaaGreatDoorW.PrintWords Go.Proofs.YteidebllianiiaaGreatDoorW.PrintLast Go.Proofs.YteidebllianiiaaGreatDoorW.PrintMore

def toS (t : Tm) : S70 := ⟨t.1, t.2⟩
theorem flat_chunk (T : List Tm) (j : Nat) (hj : j < T.length) : ((flatT T).drop (j * 2)).take 2 = encK T[j] := by
  apply List.ext_getElem?
  intro i
  by_cases hi : i < 2
  · rw [List.getElem?_take_of_lt hi, List.getElem?_drop, flatT_get T j i hj hi]
  · rw [List.getElem?_take_eq_none (by omega), List.getElem?_eq_none (by rw [encK_len]; omega)]
theorem terms_R {w : World} {base : Nat} {v : Value} {T : List Tm} (h : w.ownsRow base 70 2 v T.length (flatT T)) : Kd.R k70 70 w base (fun _ => True) v (T.map toS) := by
  refine ⟨fun _ _ => trivial, flatT T, by rw [List.length_map]; exact h, by rw [flatT_len, List.length_map]; rfl, fun j p hp => ?_⟩
  have hj : j < T.length := by
    have := (List.getElem?_eq_some_iff.1 hp).1
    rwa [List.length_map] at this
  rw [List.getElem?_map, List.getElem?_eq_getElem hj] at hp
  obtain rfl : toS T[j] = p := by simpa using hp
  show k70.M _ _ _ _ (((flatT T).drop (j * 2)).take 2)
  rw [flat_chunk T j hj]
  exact k70_mkM _ _ _ (toS T[j])

def doc_Invert.f (_a : Int) (l : List S50) : Option ((List S70) × (List (List Int))) := if docOk l ∧ namesOk l then some ((termsOf (occ l)).map toS, (termsOf (occ l)).map (placesIn (occ l))) else none

end Go.Proofs.YteidebllianiiaaGreatDoor
