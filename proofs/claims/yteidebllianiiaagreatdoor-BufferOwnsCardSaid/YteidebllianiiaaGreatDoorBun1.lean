/- Joined: WordPlain, Refs, WordRefs, DocP, MayP, DocG, MayR, DocH, DocT, BufM, BufP, BufE, BufS, BufB, BufL, MayC, BufA, BufR, BufQ, BufN, BufV, BufK, Opens, Open9. -/
import Derived.Test.YteidebllianiiaaGreatDoorBnd0
import Derived.Test.YteidebllianiiaaGreatDoorPAllx3
import Derived.Test.YteidebllianiiaaGreatDoorPAllx4
import Derived.Test.YteidebllianiiaaGreatDoorWN
import Derived.Test.YteidebllianiiaaGreatDoorPAllx5
import Derived.Test.YteidebllianiiaaGreatDoorPAllx19
import Derived.Test.YteidebllianiiaaGreatDoorGoodC
import Derived.Test.YteidebllianiiaaGreatDoorPAllxT
import Derived.Test.YteidebllianiiaaGreatDoorPAllxN
import Derived.Test.YteidebllianiiaaGreatDoorPAllx18
import Derived.Test.YteidebllianiiaaGreatDoorPAllx14
import Derived.Maps.AppendAt
import Derived.Test.YteidebllianiiaaGreatDoorPAllx21
import Derived.Test.YteidebllianiiaaGreatDoorPAllx15
import Derived.Test.YteidebllianiiaaGreatDoorPAllx6
import Derived.Test.YteidebllianiiaaGreatDoorBun0
import Derived.Test.YteidebllianiiaaGreatDoorPAllx22
import Derived.Test.YteidebllianiiaaGreatDoorShelf
import Derived.Shelf.SlIter.Nil
import Derived.Shelf.SortM.Plain
import Derived.Shelf.SortM.SortNone
import Derived.Test.YteidebllianiiaaGreatDoorRows
import Derived.Test.YteidebllianiiaaGreatDoorWWords
import Derived.Deep.Slices
import Derived.Deep.Strs
import Derived.ProofKit
import Derived.OpenShut
import Derived.ChangeSame
import Derived.ChangeOld
import Derived.Below
import Derived.Test.YteidebllianiiaaGreatDoorPAllx0
set_option linter.unusedVariables false
set_option linter.unusedSimpArgs false
/-! Words of characters: plain lists. -/
set_option linter.unusedVariables false
set_option linter.unusedSimpArgs false
namespace Go.Proofs.YteidebllianiiaaGreatDoor
open Go.RowKit

theorem inB_32 : inB 32 = false := by decide

theorem stepW_out (st : List ByteArray × List Int) (c : Int) (h : inB c = false) : stepW st c = (if 0 < st.2.length then st.1 ++ [strOf st.2] else st.1, []) := by unfold stepW; rw [h]; rfl

/-! A blank behind bytes: no sign of theirs turns. -/

end Go.Proofs.YteidebllianiiaaGreatDoor

/-! The references of layer 1, as printed: what they tell. -/
set_option linter.unusedVariables false
set_option linter.unusedSimpArgs false
namespace Go.Proofs.YteidebllianiiaaGreatDoor
open Go.RowKit Go.Proofs.YteidebllianiiaaGreatDoor.PAll Go.Proofs.YteidebllianiiaaGreatDoorW.PrintWords Go.Proofs.YteidebllianiiaaGreatDoorW.PrintLast

theorem Ev.pos {α : Type} {c : Prop} [Decidable c] {g f : Nat → Option α} {r : α} (h : c) (k : Ev g r) : Ev (fun n => if c then g n else f n) r := by simpa only [if_pos h] using k
theorem Ev.neg {α : Type} {c : Prop} [Decidable c] {g f : Nat → Option α} {r : α} (h : ¬ c) (k : Ev f r) : Ev (fun n => if c then g n else f n) r := by simpa only [if_neg h] using k
theorem Ev.ret {α : Type} {a r : α} (h : a = r) : Ev (fun _ => some a) r := h ▸ Ev.now a
theorem wrap_small (n : Int) (h : -9223372036854775808 ≤ n ∧ n ≤ 9223372036854775807) : wrap64 n = n := by unfold wrap64; omega

/-! ### Same -/
/-! ### one -/
theorem bt_byt (s : ByteArray) (i : Nat) : bt s i = byt s.data.toList i := by
  unfold bt byt
  simp only [Int.toNat_natCast]
  split
  · rename_i h
    rw [List.getD_eq_getElem?_getD, Array.getElem?_toList, Array.getElem?_eq_getElem (by exact h)]
    rfl
  · rename_i h
    rw [List.getD_eq_getElem?_getD, Array.getElem?_toList, Array.getElem?_eq_none (by have : s.data.size = s.size := rfl; omega)]
    rfl
theorem size_data (s : ByteArray) : s.data.toList.length = s.size := Array.length_toList

theorem bt_r (s : ByteArray) (i : Int) : 0 ≤ bt s i ∧ bt s i ≤ 255 := bt_range s i
theorem wrap_bt (s : ByteArray) (i : Int) : wrap64 (bt s i) = bt s i := wrap_small _ (by have := bt_r s i; omega)

/-- The loop over the bytes behind the first one, and what stands behind it: from place i on, v so far. -/
def oneTail (s : ByteArray) (n least v i : Int) : Nat → Int × Int
  | 0 => if v < least then (65533, 1) else if v > 1114111 then (65533, 1) else if 55296 ≤ v ∧ v ≤ 57343 then (65533, 1) else (v, n)
  | d + 1 => if bt s i < 128 then (65533, 1) else if bt s i ≥ 192 then (65533, 1) else oneTail s n least (64 * v + bt s i - 128) (i + 1) d

def bnd : Nat → Int
  | 0 => 1099511627776
  | d + 1 => bnd d / 64 - 2
theorem bnd_le (d : Nat) : bnd d ≤ 1099511627776 := by
  induction d with
  | zero => decide
  | succ d ih => unfold bnd; omega

theorem one_loop (s : ByteArray) (n least : Int) (hn : n ≤ s.size) (hn4 : n ≤ 4) (d : Nat) : ∀ v i : Int, 1 ≤ i → i + d = n → 0 ≤ v → v ≤ bnd d →
    Ev (fun k => concordanceref01_one.l0 k s n least v i) (oneTail s n least v i d) := by
  induction d with
  | zero =>
    intro v i h1 hi _ _
    refine Ev.step (fun k => by rw [concordanceref01_one.l0]) (Ev.neg (by omega) ?_)
    unfold oneTail
    by_cases c1 : v < least
    · refine Ev.pos c1 (Ev.ret (by rw [if_pos c1]))
    · refine Ev.neg c1 ?_
      rw [if_neg c1]
      by_cases c2 : v > 1114111
      · refine Ev.pos c2 (Ev.ret (by rw [if_pos c2]))
      · refine Ev.neg c2 ?_
        rw [if_neg c2]
        by_cases c3 : v ≥ 55296
        · refine Ev.pos c3 ?_
          by_cases c4 : v ≤ 57343
          · exact Ev.pos c4 (Ev.ret (by rw [if_pos ⟨by omega, c4⟩]))
          · exact Ev.neg c4 (Ev.ret (by rw [if_neg (by omega)]))
        · exact Ev.neg c3 (Ev.ret (by rw [if_neg (by omega)]))
  | succ d ih =>
    intro v i h1 hi h0 hv
    have hb := bt_r s i
    have hbd := bnd_le d
    have hbs : bnd (d + 1) = bnd d / 64 - 2 := rfl
    refine Ev.step (fun k => by rw [concordanceref01_one.l0, wrap_bt]) (Ev.pos (by omega) (Ev.pos (by omega) (Ev.pos (by omega) ?_)))
    unfold oneTail
    by_cases c1 : bt s i < 128
    · exact Ev.pos c1 (Ev.ret (by rw [if_pos c1]))
    · refine Ev.neg c1 ?_
      rw [if_neg c1]
      by_cases c2 : bt s i ≥ 192
      · exact Ev.pos c2 (Ev.ret (by rw [if_pos c2]))
      · refine Ev.neg c2 ?_
        rw [if_neg c2, wrap_small (64 * v) (by omega), wrap_small (64 * v + bt s i) (by omega), wrap_small (64 * v + bt s i - 128) (by omega), wrap_small (i + 1) (by omega)]
        exact ih (64 * v + bt s i - 128) (i + 1) (by omega) (by omega) (by omega) (by omega)

/-- The class of the first byte: how many bytes, the least number, the number so far. -/
theorem one_rest (s : ByteArray) (n least v : Int) (hn : n = 0 ∨ (2 ≤ n ∧ n ≤ 4)) (h0 : 0 ≤ v) (hv : v ≤ 1000) :
    Ev (fun k => concordanceref01_one.j2 k s n least v) (if n = 0 ∨ (s.size : Int) < n then (65533, 1) else oneTail s n least v 1 (n - 1).toNat) := by
  refine Ev.step (fun k => by rw [concordanceref01_one.j2]) ?_
  by_cases c : n = 0
  · refine Ev.pos c (Ev.step (fun k => by rw [concordanceref01_one.j3]) (Ev.pos rfl (Ev.ret (by rw [if_pos (.inl c)]))))
  · refine Ev.neg c (Ev.step (fun k => by rw [concordanceref01_one.j3]) ?_)
    by_cases c2 : (s.size : Int) < n
    · exact Ev.pos (decide_eq_true c2) (Ev.ret (by rw [if_pos (.inr c2)]))
    · refine Ev.neg (by simpa using c2) ?_
      rw [if_neg (by omega)]
      refine one_loop s n least (by omega) (by omega) (n - 1).toNat v 1 (by omega) (by omega) h0 ?_
      have hd : (n - 1).toNat = 1 ∨ (n - 1).toNat = 2 ∨ (n - 1).toNat = 3 := by omega
      rcases hd with h | h | h <;> rw [h]
      · exact Int.le_trans hv (by decide)
      · exact Int.le_trans hv (by decide)
      · exact Int.le_trans hv (by decide)

/-- What 'one' tells of bytes that are some. -/
def oneVal (s : ByteArray) : Int × Int :=
  if bt s 0 < 128 then (bt s 0, 1)
  else if 194 ≤ bt s 0 ∧ bt s 0 < 224 then (if (s.size : Int) < 2 then (65533, 1) else oneTail s 2 128 (bt s 0 - 192) 1 1)
  else if 224 ≤ bt s 0 ∧ bt s 0 < 240 then (if (s.size : Int) < 3 then (65533, 1) else oneTail s 3 2048 (bt s 0 - 224) 1 2)
  else if 240 ≤ bt s 0 ∧ bt s 0 < 245 then (if (s.size : Int) < 4 then (65533, 1) else oneTail s 4 65536 (bt s 0 - 240) 1 3)
  else (65533, 1)

theorem one_val (s : ByteArray) (h : 0 < s.size) : Ev (fun k => concordanceref01_one.f k s) (oneVal s) := by
  have hb := bt_r s 0
  have r0 := one_rest s 0 0 0 (.inl rfl) (by omega) (by omega)
  rw [if_pos (.inl rfl)] at r0
  unfold concordanceref01_one.f oneVal
  rw [wrap_bt]
  refine Ev.pos (by omega) ?_
  by_cases c1 : bt s 0 < 128
  · exact Ev.pos c1 (Ev.ret (by rw [if_pos c1]))
  refine Ev.neg c1 ?_
  rw [if_neg c1]
  by_cases c2 : bt s 0 ≥ 194
  · refine Ev.pos c2 (Ev.step (fun k => by rw [concordanceref01_one.j0]) ?_)
    by_cases c3 : bt s 0 < 224
    · rw [if_pos ⟨c2, c3⟩]
      refine Ev.pos (decide_eq_true c3) ?_
      rw [wrap_small _ (by omega)]
      have := one_rest s 2 128 (bt s 0 - 192) (by omega) (by omega) (by omega)
      by_cases c4 : (s.size : Int) < 2
      · rw [if_pos c4]; rw [if_pos (.inr c4)] at this; exact this
      · rw [if_neg c4]; rw [if_neg (by omega)] at this; exact this
    · rw [if_neg (by omega)]
      refine Ev.neg (by simpa using c3) (Ev.pos (by omega) (Ev.step (fun k => by rw [concordanceref01_one.j1]) ?_))
      by_cases c5 : bt s 0 < 240
      · rw [if_pos ⟨by omega, c5⟩]
        refine Ev.pos (decide_eq_true c5) ?_
        rw [wrap_small _ (by omega)]
        have := one_rest s 3 2048 (bt s 0 - 224) (by omega) (by omega) (by omega)
        by_cases c4 : (s.size : Int) < 3
        · rw [if_pos c4]; rw [if_pos (.inr c4)] at this; exact this
        · rw [if_neg c4]; rw [if_neg (by omega)] at this; exact this
      · rw [if_neg (by omega)]
        refine Ev.neg (by simpa using c5) (Ev.pos (by omega) ?_)
        by_cases c6 : bt s 0 < 245
        · rw [if_pos ⟨by omega, c6⟩]
          refine Ev.pos c6 ?_
          rw [wrap_small _ (by omega)]
          have := one_rest s 4 65536 (bt s 0 - 240) (by omega) (by omega) (by omega)
          by_cases c4 : (s.size : Int) < 4
          · rw [if_pos c4]; rw [if_pos (.inr c4)] at this; exact this
          · rw [if_neg c4]; rw [if_neg (by omega)] at this; exact this
        · rw [if_neg (by omega)]
          exact Ev.neg c6 r0
  · rw [if_neg (by omega), if_neg (by omega), if_neg (by omega)]
    refine Ev.neg c2 (Ev.step (fun k => by rw [concordanceref01_one.j0]) (Ev.neg (by simp) (Ev.neg (by omega) (Ev.step (fun k => by rw [concordanceref01_one.j1]) (Ev.neg (by simp) (Ev.neg (by omega) r0))))))

set_option maxHeartbeats 4000000 in
theorem oneVal_dec (s : ByteArray) (_h : 0 < s.size) : oneVal s = (((dec s.data.toList).1 : Int), ((dec s.data.toList).2 : Int)) := by
  have e0 : bt s 0 = (byt s.data.toList 0 : Int) := bt_byt s 0
  have e1 : bt s 1 = (byt s.data.toList 1 : Int) := bt_byt s 1
  have e2 : bt s 2 = (byt s.data.toList 2 : Int) := bt_byt s 2
  have e3 : bt s 3 = (byt s.data.toList 3 : Int) := bt_byt s 3
  have h0 := byt_lt s.data.toList 0; have h1 := byt_lt s.data.toList 1; have h2 := byt_lt s.data.toList 2; have h3 := byt_lt s.data.toList 3
  have t1 : ∀ n least v : Int, oneTail s n least v 1 1 = if bt s 1 < 128 then (65533, 1) else if bt s 1 ≥ 192 then (65533, 1) else oneTail s n least (64 * v + bt s 1 - 128) 2 0 := fun _ _ _ => rfl
  have t2 : ∀ n least v : Int, oneTail s n least v 1 2 = if bt s 1 < 128 then (65533, 1) else if bt s 1 ≥ 192 then (65533, 1) else if bt s 2 < 128 then (65533, 1) else if bt s 2 ≥ 192 then (65533, 1) else oneTail s n least (64 * (64 * v + bt s 1 - 128) + bt s 2 - 128) 3 0 := fun _ _ _ => rfl
  have t3 : ∀ n least v : Int, oneTail s n least v 1 3 = if bt s 1 < 128 then (65533, 1) else if bt s 1 ≥ 192 then (65533, 1) else if bt s 2 < 128 then (65533, 1) else if bt s 2 ≥ 192 then (65533, 1) else if bt s 3 < 128 then (65533, 1) else if bt s 3 ≥ 192 then (65533, 1) else oneTail s n least (64 * (64 * (64 * v + bt s 1 - 128) + bt s 2 - 128) + bt s 3 - 128) 4 0 := fun _ _ _ => rfl
  have t0 : ∀ n least v i : Int, oneTail s n least v i 0 = if v < least then (65533, 1) else if v > 1114111 then (65533, 1) else if 55296 ≤ v ∧ v ≤ 57343 then (65533, 1) else (v, n) := fun _ _ _ _ => rfl
  unfold oneVal
  rw [t1, t2, t3, t0, t0, t0, e0, e1, e2, e3]
  unfold dec
  rw [size_data]
  clear t0 t1 t2 t3 e0 e1 e2 e3
  generalize byt s.data.toList 0 = b0 at *
  generalize byt s.data.toList 1 = b1 at *
  generalize byt s.data.toList 2 = b2 at *
  generalize byt s.data.toList 3 = b3 at *
  generalize s.size = n at *
  clear s
  unfold Lib.decodeN
  by_cases c1 : b0 < 128
  · rw [if_pos (by omega), if_pos c1]; rfl
  rw [if_neg (by omega), if_neg c1]
  by_cases c2 : b0 < 192
  · rw [if_neg (by omega), if_neg (by omega), if_neg (by omega), if_neg (by omega), if_neg (by omega), if_neg (by omega)]; rfl
  by_cases c3 : b0 < 224
  · rw [if_neg (show ¬ (224 ≤ (b0 : Int) ∧ (b0 : Int) < 240) by omega), if_neg (show ¬ (240 ≤ (b0 : Int) ∧ (b0 : Int) < 245) by omega),
      if_neg (show ¬ (b0 / 16 = 14 ∧ (1 < n ∧ b1 / 64 = 2) ∧ (2 < n ∧ b2 / 64 = 2)) by omega), if_neg (show ¬ (b0 / 8 = 30 ∧ (1 < n ∧ b1 / 64 = 2) ∧ (2 < n ∧ b2 / 64 = 2) ∧ (3 < n ∧ b3 / 64 = 2)) by omega)]
    repeat' split
    all_goals first | rfl | (exfalso; omega) | (simp only [Prod.mk.injEq]; omega)
  by_cases c6 : b0 < 240
  · rw [if_neg (show ¬ (194 ≤ (b0 : Int) ∧ (b0 : Int) < 224) by omega), if_pos (show 224 ≤ (b0 : Int) ∧ (b0 : Int) < 240 by omega), if_neg (show ¬ (b0 / 32 = 6 ∧ (1 < n ∧ b1 / 64 = 2)) by omega),
      if_neg (show ¬ (b0 / 8 = 30 ∧ (1 < n ∧ b1 / 64 = 2) ∧ (2 < n ∧ b2 / 64 = 2) ∧ (3 < n ∧ b3 / 64 = 2)) by omega)]
    repeat' split
    all_goals first | rfl | (exfalso; omega) | (simp only [Prod.mk.injEq]; omega)
  rw [if_neg (show ¬ (194 ≤ (b0 : Int) ∧ (b0 : Int) < 224) by omega), if_neg (show ¬ (224 ≤ (b0 : Int) ∧ (b0 : Int) < 240) by omega), if_neg (show ¬ (b0 / 32 = 6 ∧ (1 < n ∧ b1 / 64 = 2)) by omega), if_neg (show ¬ (b0 / 16 = 14 ∧ (1 < n ∧ b1 / 64 = 2) ∧ (2 < n ∧ b2 / 64 = 2)) by omega)]
  by_cases c8 : (1 < n ∧ b1 / 64 = 2) ∧ (2 < n ∧ b2 / 64 = 2) ∧ (3 < n ∧ b3 / 64 = 2)
  · by_cases c9 : b0 < 248
    · rw [if_pos (show b0 / 8 = 30 ∧ (1 < n ∧ b1 / 64 = 2) ∧ (2 < n ∧ b2 / 64 = 2) ∧ (3 < n ∧ b3 / 64 = 2) from ⟨by omega, c8⟩)]
      have ev : (64 * (64 * (64 * ((b0 : Int) - 240) + b1 - 128) + b2 - 128) + b3 - 128) = ((b0 % 8 * 262144 + b1 % 64 * 4096 + b2 % 64 * 64 + b3 % 64 : Nat) : Int) := by omega
      have ev2 : 245 ≤ b0 → 1114111 < b0 % 8 * 262144 + b1 % 64 * 4096 + b2 % 64 * 64 + b3 % 64 := by omega
      rw [ev]
      generalize b0 % 8 * 262144 + b1 % 64 * 4096 + b2 % 64 * 64 + b3 % 64 = v at *
      repeat' split
      all_goals first | rfl | (exfalso; omega)
    · rw [if_neg (show ¬ (b0 / 8 = 30 ∧ (1 < n ∧ b1 / 64 = 2) ∧ (2 < n ∧ b2 / 64 = 2) ∧ (3 < n ∧ b3 / 64 = 2)) by omega), if_neg (show ¬ (240 ≤ (b0 : Int) ∧ (b0 : Int) < 245) by omega)]; rfl
  · rw [if_neg (show ¬ (b0 / 8 = 30 ∧ (1 < n ∧ b1 / 64 = 2) ∧ (2 < n ∧ b2 / 64 = 2) ∧ (3 < n ∧ b3 / 64 = 2)) from fun h => c8 h.2)]
    by_cases c9 : 240 ≤ (b0 : Int) ∧ (b0 : Int) < 245
    · rw [if_pos c9]
      by_cases d0 : (n : Int) < 4
      · rw [if_pos d0]; rfl
      rw [if_neg d0]
      by_cases d1 : (b1 : Int) < 128
      · rw [if_pos d1]; rfl
      rw [if_neg d1]
      by_cases d2 : (b1 : Int) ≥ 192
      · rw [if_pos d2]; rfl
      rw [if_neg d2]
      by_cases d3 : (b2 : Int) < 128
      · rw [if_pos d3]; rfl
      rw [if_neg d3]
      by_cases d4 : (b2 : Int) ≥ 192
      · rw [if_pos d4]; rfl
      rw [if_neg d4]
      by_cases d5 : (b3 : Int) < 128
      · rw [if_pos d5]; rfl
      rw [if_neg d5]
      by_cases d6 : (b3 : Int) ≥ 192
      · rw [if_pos d6]; rfl
      omega
    · rw [if_neg c9]; rfl

theorem one_ev (s : ByteArray) (h : 0 < s.size) : Ev (fun k => concordanceref01_one.f k s) (((dec s.data.toList).1 : Int), ((dec s.data.toList).2 : Int)) := by
  rw [← oneVal_dec s h]; exact one_val s h
/-! ### Signs -/
theorem drop_data (s : ByteArray) (n : Nat) : (s.extract n s.size).data.toList = s.data.toList.drop n := by
  rw [ByteArray.data_extract, Array.toList_extract]
  have : s.data.size = s.size := rfl
  rw [← this]
  simp [List.take_of_length_le]
theorem rsigns_loop (d : Nat) : ∀ (s : ByteArray) (acc : List Int), s.size ≤ d → s.size + acc.length ≤ 1000000000000 →
    Ev (fun k => concordanceref01_Signs.l0 k s acc) (acc ++ signs s.data.toList) := by
  induction d with
  | zero =>
    intro s acc hd _
    refine Ev.step (fun k => by rw [concordanceref01_Signs.l0]) (Ev.neg (by omega) (Ev.ret ?_))
    have : s.data.toList = [] := List.eq_nil_of_length_eq_zero (by rw [size_data]; omega)
    rw [this, signs_nil, List.append_nil]
  | succ d ih =>
    intro s acc hd hl
    by_cases h0 : s.size = 0
    · refine Ev.step (fun k => by rw [concordanceref01_Signs.l0]) (Ev.neg (by omega) (Ev.ret ?_))
      have : s.data.toList = [] := List.eq_nil_of_length_eq_zero (by rw [size_data]; omega)
      rw [this, signs_nil, List.append_nil]
    · have hw := dec_width s.data.toList (by rw [size_data]; omega)
      rw [size_data] at hw
      refine Ev.step (fun k => by rw [concordanceref01_Signs.l0]) (Ev.pos (by omega) (Ev.bind (one_ev s (by omega)) ?_))
      dsimp only
      refine Ev.pos (by omega) (Ev.pos (by omega) (Ev.pos (by omega) ?_))
      rw [Int.toNat_natCast, signs_step s.data.toList (by rw [size_data]; omega), ← drop_data]
      have hsz : (s.extract (dec s.data.toList).2 s.size).size = s.size - (dec s.data.toList).2 := by rw [← size_data, drop_data, List.length_drop, size_data]
      have hi := ih (s.extract (dec s.data.toList).2 s.size) (acc ++ [((dec s.data.toList).1 : Int)]) (by rw [hsz]; omega) (by rw [List.length_append, hsz]; simp; omega)
      rw [List.append_assoc, List.singleton_append] at hi
      exact hi
theorem rsigns_ev (s : ByteArray) (h : s.size ≤ 1000000000000) : Ev (fun k => concordanceref01_Signs.f k s) (signs s.data.toList) := by
  unfold concordanceref01_Signs.f
  have := rsigns_loop s.size s [] (Nat.le_refl _) (by simpa using h)
  simpa using this

/-! ### Text -/
def numsOf (l : List UInt8) : List Int := l.map (fun b => (b.toNat : Int))
theorem numsOf_append (a b : List UInt8) : numsOf (a ++ b) = numsOf a ++ numsOf b := List.map_append
theorem numsOf_length (a : List UInt8) : (numsOf a).length = a.length := List.length_map _
theorem str_nums (l : List UInt8) : strOfNums (numsOf l) = ⟨l.toArray⟩ := by
  unfold strOfNums numsOf
  rw [List.map_map]
  congr 2
  refine (List.map_congr_left (fun b _ => ?_)).trans (List.map_id _)
  simp [Function.comp]
theorem nums_encode (c : Int) : numsOf (Lib.encodeRune c) = Lib.encodeRuneZ c := by
  unfold numsOf Lib.encodeRune
  rw [List.map_map]
  have : ∀ x ∈ Lib.encodeRuneZ c, ((fun b : UInt8 => (b.toNat : Int)) ∘ fun x : Int => x.toNat.toUInt8) x = x := by
    intro x hx
    have hb := Lib.encodeRuneZ_byte c x hx
    simp only [Function.comp]
    rw [toU8 x hb.1 hb.2]
    omega
  exact (List.map_congr_left this).trans (List.map_id _)

theorem text_j2 (l : List Int) (acc : List UInt8) (i : Nat) (c : Int) (r : ByteArray) (hi : i < l.length) (hl : l.length ≤ 1000000000000) (ha : acc.length ≤ 4 * i) (hc : okChar c)
    (h : Ev (fun k => concordanceref01_Text.l0 k l (numsOf (acc ++ Lib.encodeRune c)) ((i + 1 : Nat) : Int)) r) : Ev (fun k => concordanceref01_Text.j2 k l (numsOf acc) i c) r := by
  unfold okChar at hc
  have hw : wrap64 ((i : Int) + 1) = ((i + 1 : Nat) : Int) := by rw [wrap_small _ (by omega)]; omega
  have hln := numsOf_length acc
  refine Ev.step (fun k => by rw [concordanceref01_Text.j2]) ?_
  rw [hw]
  rw [numsOf_append, nums_encode] at h
  by_cases c1 : c < 128
  · refine Ev.pos c1 (Ev.pos (by omega) ?_)
    rw [Lib.encodeRuneZ_one (by omega) (by omega)] at h
    rw [show c % 256 = c by omega]
    exact h
  refine Ev.neg c1 ?_
  by_cases c2 : c < 2048
  · refine Ev.pos c2 (Ev.bind (Ev.now _) (Ev.pos (by simp; omega) ?_))
    rw [Lib.encodeRuneZ_two (by omega) (by omega)] at h
    rw [show Int.tdiv c 64 = c / 64 from Int.tdiv_eq_ediv_of_nonneg (by omega), show Int.tmod c 64 = c % 64 from Int.tmod_eq_emod_of_nonneg (by omega), wrap_small (c / 64) (by omega), wrap_small (192 + c / 64) (by omega), wrap_small (128 + c % 64) (by omega), show (192 + c / 64) % 256 = 192 + c / 64 by omega, show (128 + c % 64) % 256 = 128 + c % 64 by omega]
    exact h
  refine Ev.neg c2 ?_
  by_cases c3 : c < 65536
  · refine Ev.pos c3 (Ev.bind (Ev.now _) (Ev.pos (by simp; omega) ?_))
    rw [Lib.encodeRuneZ_three (by omega)] at h
    rw [show Int.tdiv c 4096 = c / 4096 from Int.tdiv_eq_ediv_of_nonneg (by omega), show Int.tdiv c 64 = c / 64 from Int.tdiv_eq_ediv_of_nonneg (by omega), show Int.tmod c 64 = c % 64 from Int.tmod_eq_emod_of_nonneg (by omega), wrap_small (c / 64) (by omega), wrap_small (c / 4096) (by omega), show Int.tmod (c / 64) 64 = c / 64 % 64 from Int.tmod_eq_emod_of_nonneg (by omega),
      wrap_small (224 + c / 4096) (by omega), wrap_small (128 + c / 64 % 64) (by omega), wrap_small (128 + c % 64) (by omega), show (224 + c / 4096) % 256 = 224 + c / 4096 by omega, show (128 + c / 64 % 64) % 256 = 128 + c / 64 % 64 by omega, show (128 + c % 64) % 256 = 128 + c % 64 by omega]
    exact h
  refine Ev.neg c3 (Ev.bind (Ev.now _) (Ev.pos (by simp; omega) ?_))
  rw [Lib.encodeRuneZ_four (by omega) (by omega)] at h
  rw [show Int.tdiv c 262144 = c / 262144 from Int.tdiv_eq_ediv_of_nonneg (by omega), show Int.tdiv c 4096 = c / 4096 from Int.tdiv_eq_ediv_of_nonneg (by omega), show Int.tdiv c 64 = c / 64 from Int.tdiv_eq_ediv_of_nonneg (by omega), show Int.tmod c 64 = c % 64 from Int.tmod_eq_emod_of_nonneg (by omega), wrap_small (c / 64) (by omega), wrap_small (c / 4096) (by omega), wrap_small (c / 262144) (by omega),
    show Int.tmod (c / 64) 64 = c / 64 % 64 from Int.tmod_eq_emod_of_nonneg (by omega), show Int.tmod (c / 4096) 64 = c / 4096 % 64 from Int.tmod_eq_emod_of_nonneg (by omega),
    wrap_small (240 + c / 262144) (by omega), wrap_small (128 + c / 4096 % 64) (by omega), wrap_small (128 + c / 64 % 64) (by omega), wrap_small (128 + c % 64) (by omega), show (240 + c / 262144) % 256 = 240 + c / 262144 by omega, show (128 + c / 4096 % 64) % 256 = 128 + c / 4096 % 64 by omega, show (128 + c / 64 % 64) % 256 = 128 + c / 64 % 64 by omega, show (128 + c % 64) % 256 = 128 + c % 64 by omega]
  exact h

theorem text_loop (l : List Int) (hl : l.length ≤ 1000000000000) (d : Nat) : ∀ i : Nat, i + d = l.length →
    Ev (fun k => concordanceref01_Text.l0 k l (numsOf (text (l.take i))) (i : Int)) ⟨(text l).toArray⟩ := by
  induction d with
  | zero =>
    intro i hi
    refine Ev.step (fun k => by rw [concordanceref01_Text.l0]) (Ev.neg (by omega) (Ev.ret ?_))
    rw [str_nums, List.take_of_length_le (by omega)]
  | succ d ih =>
    intro i hi
    have hlt : i < l.length := by omega
    have hr : rd l i = l[i] := by unfold rd; simp; rw [List.getElem?_eq_getElem (by omega)]; rfl
    have htl := text_length (l.take i)
    have htk : (l.take i).length ≤ i := List.length_take_le _ _
    have hn := ih (i + 1) (by omega)
    rw [List.take_succ_eq_append_getElem hlt, text_append, ← hr, show text [rd l i] = Lib.encodeRune (rd l i) by simp [text], ← encode_good] at hn
    have hj := text_j2 l (text (l.take i)) i (good (rd l i)) _ hlt hl (by omega) (good_ok _) hn
    have bad : ¬ okChar (rd l i) → Ev (fun k => concordanceref01_Text.j1 k l (numsOf (text (l.take i))) i (rd l i) true) ⟨(text l).toArray⟩ := fun hb => by
      rw [show good (rd l i) = 65533 from if_neg hb] at hj
      exact Ev.step (fun k => by rw [concordanceref01_Text.j1]) (Ev.pos rfl hj)
    have ok : okChar (rd l i) → ∀ b, b = false → Ev (fun k => concordanceref01_Text.j1 k l (numsOf (text (l.take i))) i (rd l i) b) ⟨(text l).toArray⟩ := fun hb b e => by
      subst e
      rw [good_of_ok hb] at hj
      exact Ev.step (fun k => by rw [concordanceref01_Text.j1]) (Ev.neg (by simp) hj)
    refine Ev.step (fun k => by rw [concordanceref01_Text.l0]) (Ev.pos (by omega) (Ev.pos (by omega) ?_))
    by_cases c1 : rd l i < 0
    · exact Ev.pos c1 (bad (by unfold okChar; omega))
    refine Ev.neg c1 ?_
    by_cases c2 : rd l i > 1114111
    · exact Ev.pos c2 (bad (by unfold okChar; omega))
    refine Ev.neg c2 ?_
    by_cases c3 : rd l i ≥ 55296
    · refine Ev.pos c3 ?_
      by_cases c4 : rd l i ≤ 57343
      · rw [decide_eq_true c4]; exact bad (by unfold okChar; omega)
      · exact ok (by unfold okChar; omega) _ (decide_eq_false c4)
    · exact Ev.neg c3 (ok (by unfold okChar; omega) _ rfl)
theorem rtext_ev (l : List Int) (h : l.length ≤ 1000000000000) : Ev (fun k => concordanceref01_Text.f k l) ⟨(text l).toArray⟩ := by
  unfold concordanceref01_Text.f
  exact text_loop l h l.length 0 (by omega)
end Go.Proofs.YteidebllianiiaaGreatDoor

/-! The document's words, as printed: what they tell. -/
set_option linter.unusedVariables false
set_option linter.unusedSimpArgs false
namespace Go.Proofs.YteidebllianiiaaGreatDoor
open Go.RowKit Go.Proofs.YteidebllianiiaaGreatDoor.PAll Go.Proofs.YteidebllianiiaaGreatDoorW.PrintWords Go.Proofs.YteidebllianiiaaGreatDoorW.PrintLast

theorem Ev.const {α β : Type} {o : Option α} {a : α} {f : Nat → α → Option β} {r : β} (h : o = some a) (k : Ev (fun n => f n a) r) : Ev (fun n => o.bind (f n)) r := by subst h; exact k
theorem rd_nat (l : List Int) (i : Nat) (h : i < l.length) : rd l i = l[i] := by unfold rd; simp; rw [List.getElem?_eq_getElem h]; rfl
theorem rdS_nat (l : List ByteArray) (i : Nat) (h : i < l.length) : rdOf ByteArray.empty l i = l[i] := by unfold rdOf; simp; rw [List.getElem?_eq_getElem h]; rfl

theorem rfold_f (c : Int) : concordanceref01_Fold.f c = some (fold c) := by
  unfold concordanceref01_Fold.f fold
  repeat' split
  all_goals first | rfl | (exfalso; omega) | (rw [wrap_small _ (by omega)]) | skip
theorem rletter_f (c : Int) : concordanceref01_Letter.f c = some (letterB c) := by
  unfold concordanceref01_Letter.f letterB
  repeat' split
  all_goals
    congr 1
    rw [Bool.eq_iff_iff]
    simp
    try omega
theorem rin_f (c : Int) : concordanceref02_in.f c = some (inB c) := by
  unfold concordanceref02_in.f
  rw [rletter_f, Option.bind_some]
  unfold inB digitB
  cases letterB c
  · rw [if_neg (by decide)]
    by_cases h : c ≥ 48
    · rw [if_pos h]; congr 1; rw [Bool.eq_iff_iff]; simp; omega
    · rw [if_neg h]; congr 1; rw [Bool.eq_iff_iff]; simp; omega
  · rfl

theorem same_loop (a : List ByteArray) (hl : a.length ≤ 1000000000000) (d : Nat) : ∀ i : Nat, i + d = a.length → Ev (fun k => concordanceref02_Same.l0 k a a (i : Int)) true := by
  induction d with
  | zero =>
    intro i hi
    exact Ev.step (fun k => by rw [concordanceref02_Same.l0]) (Ev.neg (by omega) (Ev.ret rfl))
  | succ d ih =>
    intro i hi
    have hg := ih (i + 1) (by omega)
    refine Ev.step (fun k => by rw [concordanceref02_Same.l0, wrap_small (i + 1) (by omega)]) ?_
    exact Ev.pos (by omega) (Ev.pos (by omega) (Ev.pos (by omega) (Ev.pos rfl (by exact_mod_cast hg))))
theorem same_ev (a b : List ByteArray) (h : a = b) (hl : a.length ≤ 1000000000000) : Ev (fun k => concordanceref02_Same.f k a b) true := by
  subst h
  unfold concordanceref02_Same.f
  exact Ev.pos rfl (same_loop a hl a.length 0 (by omega))

/-- The words of what is left, some being whole, and one under way. -/
def rest (outs : List ByteArray) (own l : List Int) : List ByteArray := (stepW (l.foldl stepW (outs, own)) 32).1
theorem rest_nil (outs : List ByteArray) (own : List Int) : rest outs own [] = if 0 < own.length then outs ++ [strOf own] else outs := by
  unfold rest; rw [List.foldl_nil, stepW_out _ 32 inB_32]
theorem rest_in (outs : List ByteArray) (own l : List Int) (c : Int) (h : inB c = true) : rest outs own (c :: l) = rest outs (own ++ [fold c]) l := by
  unfold rest; rw [List.foldl_cons]; unfold stepW; rw [if_pos h]
theorem rest_out (outs : List ByteArray) (own l : List Int) (c : Int) (h : inB c = false) : rest outs own (c :: l) = rest (if 0 < own.length then outs ++ [strOf own] else outs) [] l := by
  unfold rest; rw [List.foldl_cons, stepW_out _ c h]

theorem rwords_loop (l : List Int) (hl : l.length ≤ 1000000000) (d : Nat) : ∀ i : Nat, i + d = l.length →
    (∀ (outs : List ByteArray) (own : List Int), outs.length + own.length ≤ i → (0 < own.length ∨ ∃ h : i < l.length, inB l[i] = true) → Ev (fun k => concordanceref02_Words.l1 k l outs (i : Int) own) (rest outs own (l.drop i))) ∧
    (∀ outs : List ByteArray, outs.length ≤ i → Ev (fun k => concordanceref02_Words.l0 k l outs (i : Int)) (rest outs [] (l.drop i))) := by
  induction d with
  | zero =>
    intro i hi
    have e : l.drop i = [] := List.drop_eq_nil_of_le (by omega)
    rw [e]
    refine ⟨fun outs own ho hc => ?_, fun outs ho => ?_⟩
    · have hp : 0 < own.length := by rcases hc with h | ⟨h, _⟩ <;> omega
      rw [rest_nil, if_pos hp]
      refine Ev.step (fun k => by rw [concordanceref02_Words.l1, wrap_small (i + 1) (by omega)]) (Ev.neg (by omega) ?_)
      refine Ev.bind (rtext_ev own (by omega)) (Ev.pos (by omega) ?_)
      refine Ev.step (fun k => by rw [concordanceref02_Words.l0]) ?_
      exact Ev.neg (show ¬ ((i : Int) + 1 < (l.length : Int)) by omega) (Ev.ret rfl)
    · rw [rest_nil, if_neg (by simp)]
      exact Ev.step (fun k => by rw [concordanceref02_Words.l0]) (Ev.neg (by omega) (Ev.ret rfl))
  | succ d ih =>
    intro i hi
    obtain ⟨g1, g0⟩ := ih (i + 1) (by omega)
    have e : l.drop i = l[i] :: l.drop (i + 1) := List.drop_eq_getElem_cons (by omega)
    have hr : rd l i = l[i] := rd_nat l i (by omega)
    have A : ∀ (outs : List ByteArray) (own : List Int), outs.length + own.length ≤ i → (0 < own.length ∨ ∃ h : i < l.length, inB l[i] = true) → Ev (fun k => concordanceref02_Words.l1 k l outs (i : Int) own) (rest outs own (l.drop i)) := by
      intro outs own ho hc
      rw [e]
      refine Ev.step (fun k => by rw [concordanceref02_Words.l1, hr, rin_f, rfold_f, Option.bind_some, Option.bind_some, wrap_small (i + 1) (by omega)]) (Ev.pos (by omega) (Ev.pos (by omega) ?_))
      cases hb : inB l[i] with
      | true =>
        rw [rest_in _ _ _ _ hb]
        refine Ev.pos rfl (Ev.pos (by omega) ?_)
        have := g1 outs (own ++ [fold l[i]]) (by simp; omega) (.inl (by simp))
        exact_mod_cast this
      | false =>
        have hp : 0 < own.length := by
          rcases hc with h | ⟨_, h⟩
          · exact h
          · rw [hb] at h; cases h
        rw [rest_out _ _ _ _ hb, if_pos hp]
        refine Ev.neg (by decide) ?_
        refine Ev.bind (rtext_ev own (by omega)) (Ev.pos (by omega) ?_)
        have := g0 (outs ++ [strOf own]) (by simp; omega)
        exact_mod_cast this
    refine ⟨A, fun outs ho => ?_⟩
    refine Ev.step (fun k => by rw [concordanceref02_Words.l0, hr, rin_f, Option.bind_some, wrap_small (i + 1) (by omega)]) (Ev.pos (by omega) (Ev.pos (by omega) ?_))
    cases hb : inB l[i] with
    | true => exact Ev.pos rfl (A outs [] (by simp; omega) (.inr ⟨by omega, hb⟩))
    | false =>
      rw [e, rest_out _ _ _ _ hb, if_neg (by simp)]
      refine Ev.neg (by decide) ?_
      have := g0 outs (by omega)
      exact_mod_cast this
theorem rwords_ev (a : ByteArray) (h : a.size ≤ 1000000000) : Ev (fun k => concordanceref02_Words.f k a) (wordsOf (signs a.data.toList)) := by
  unfold concordanceref02_Words.f
  have hl := signs_length a.data.toList
  rw [size_data] at hl
  refine Ev.bind (rsigns_ev a (by omega)) ?_
  exact (rwords_loop (signs a.data.toList) (by omega) (signs a.data.toList).length 0 (by omega)).2 [] (by simp)

end Go.Proofs.YteidebllianiiaaGreatDoor

/- The document's Name, Tokens, May, Words, Good: what they tell. Condition: few bytes. -/
set_option linter.unusedVariables false
set_option linter.unusedSimpArgs false
namespace Go.Proofs.YteidebllianiiaaGreatDoor
open Go.RowKit Go.Proofs.YteidebllianiiaaGreatDoor.PAll Go.Proofs.YteidebllianiiaaGreatDoorW.PrintWords Go.Proofs.YteidebllianiiaaGreatDoorW.PrintLast

abbrev Fd := S50
theorem bt_at (s : ByteArray) (i : Nat) (h : i < s.data.toList.length) : bt s (i : Int) = ((s.data.toList[i]).toNat : Int) := by
  rw [bt_byt]; unfold byt; rw [List.getD_eq_getElem?_getD, List.getElem?_eq_getElem h]; rfl
theorem rdF_nat (l : List Fd) (i : Nat) (h : i < l.length) : rd_T50 l (i : Int) = l[i] := by unfold rd_T50; rw [Int.toNat_natCast, List.getD_eq_getElem?_getD, List.getElem?_eq_getElem h]; rfl
theorem wrap_nat (n : Nat) (h : n + 1 ≤ 9223372036854775807) : wrap64 ((n : Int) + 1) = ((n + 1 : Nat) : Int) := by rw [wrap_small _ (by omega)]; push_cast; rfl

theorem nat0 (i : Nat) : ((0 : Int) ≤ (i : Int)) = True := eq_true (by omega)

/-! ### Name -/
def lowB (c : UInt8) : Bool := decide (97 ≤ c.toNat) && decide (c.toNat ≤ 122)
theorem lowB_1 {c : UInt8} (h : c.toNat < 97) : lowB c = false := by unfold lowB; simp; omega
theorem lowB_2 {c : UInt8} (h : 122 < c.toNat) : lowB c = false := by unfold lowB; simp; omega
theorem lowB_3 {c : UInt8} (h : ¬ c.toNat < 97) (h2 : ¬ 122 < c.toNat) : lowB c = true := by unfold lowB; simp; omega
def nameB (s : ByteArray) : Bool := s.data.toList.all lowB && (decide (1 ≤ s.size) && decide (s.size ≤ 12))
theorem name_loop (s : ByteArray) (hs : s.size ≤ 9223372036854775807) (d : Nat) : ∀ i : Nat, i + d = s.data.toList.length → Ev (fun k => concordanceref08_Name.l0 k s (i : Int)) ((s.data.toList.drop i).all lowB && (decide (1 ≤ s.size) && decide (s.size ≤ 12))) := by
  induction d with
  | zero =>
    intro i hi
    have h1 : ((i : Int) < (s.size : Int)) = False := eq_false (by rw [size_data] at hi; omega)
    refine Ev.step (fun k => by rw [concordanceref08_Name.l0]) ?_
    simp only [h1, if_false]
    rw [List.drop_eq_nil_of_le (by omega), List.all_nil, Bool.true_and]
    by_cases h2 : 1 ≤ s.size
    · refine Ev.pos (by omega) (Ev.ret ?_)
      rw [decide_eq_true h2, Bool.true_and, decide_eq_decide]; omega
    · refine Ev.neg (by omega) (Ev.ret ?_)
      rw [decide_eq_false h2]; rfl
  | succ d ih =>
    intro i hi
    have hl : i < s.data.toList.length := by omega
    have hg := ih (i + 1) (by omega)
    have h1 : ((i : Int) < (s.size : Int)) = True := eq_true (by rw [size_data] at hl; omega)
    refine Ev.step (fun k => by rw [concordanceref08_Name.l0, wrap_nat i (by rw [size_data] at hl; omega), bt_at s i hl]) ?_
    simp only [h1, nat0, if_true]
    rw [List.drop_eq_getElem_cons hl, List.all_cons]
    by_cases h2 : s.data.toList[i].toNat < 97
    · refine Ev.pos (by omega) (Ev.ret ?_)
      rw [lowB_1 h2]; rfl
    · refine Ev.neg (by omega) ?_
      by_cases h3 : s.data.toList[i].toNat > 122
      · refine Ev.pos (by omega) (Ev.ret ?_)
        rw [lowB_2 h3]; rfl
      · refine Ev.neg (by omega) ?_
        rw [lowB_3 h2 h3, Bool.true_and]
        exact hg
theorem name_ev (s : ByteArray) (hs : s.size ≤ 9223372036854775807) : Ev (fun k => concordanceref08_Name.f k s) (nameB s) := by
  unfold concordanceref08_Name.f
  exact name_loop s hs s.data.toList.length 0 (by omega)
theorem name_size {s : ByteArray} (h : nameB s = true) : s.size ≤ 12 := by unfold nameB at h; simp at h; exact h.2.2
theorem name_zero {s : ByteArray} (h : nameB s = true) : NoZero s.data.toList := by
  unfold nameB at h
  rw [Bool.and_eq_true] at h
  intro c hc e
  have := List.all_eq_true.1 h.1 c hc
  subst e
  revert this; decide

/-! ### Tokens: either an error, or as many as words -/
theorem tok_loop (W : List ByteArray) (hW : W.length ≤ 1000000000) (d : Nat) : ∀ (i : Nat) (acc : List S108), i + d = W.length → acc.length = i → ∃ r, Ev (fun k => concordanceref02_Tokens.l0 k W acc (i : Int)) r ∧ (r.2 = 0 → r.1.length = W.length) ∧ r.1.length ≤ W.length := by
  induction d with
  | zero =>
    intro i acc hi ha
    refine ⟨(acc, 0), Ev.step (fun k => by rw [concordanceref02_Tokens.l0]) (Ev.neg (by omega) (Ev.ret rfl)), fun _ => by simp only; omega, by simp only; omega⟩
  | succ d ih =>
    intro i acc hi ha
    by_cases h2 : ((rdOf ByteArray.empty W (i : Int)).size : Int) > 30
    · exact ⟨_, Ev.step (fun k => by rw [concordanceref02_Tokens.l0]) (Ev.pos (by omega) (Ev.pos (by omega) (Ev.pos h2 (Ev.ret rfl)))), fun e => (by cases e), by simp⟩
    · by_cases h3 : (i : Int) ≥ 500
      · exact ⟨_, Ev.step (fun k => by rw [concordanceref02_Tokens.l0]) (Ev.pos (by omega) (Ev.pos (by omega) (Ev.neg h2 (Ev.pos h3 (Ev.ret rfl))))), fun e => (by cases e), by simp⟩
      · obtain ⟨r, hr, h4, h5⟩ := ih (i + 1) (acc ++ [⟨rdOf ByteArray.empty W (i : Int), (i : Int)⟩]) (by omega) (by simp; omega)
        exact ⟨r, Ev.step (fun k => by rw [concordanceref02_Tokens.l0, wrap_nat i (by omega)]) (Ev.pos (by omega) (Ev.pos (by omega) (Ev.neg h2 (Ev.neg h3 (Ev.pos (by omega) hr))))), h4, h5⟩
theorem tok_ev (s : ByteArray) (hs : s.size ≤ 100000000) : ∃ r, Ev (fun k => concordanceref02_Tokens.f k s) r ∧ (r.2 = 0 → r.1.length = (wordsT s).length) ∧ r.1.length ≤ (wordsT s).length := by
  have hl := wordsT_len s
  obtain ⟨r, h1, h2⟩ := tok_loop (wordsT s) (by omega) (wordsT s).length 0 [] (by omega) rfl
  refine ⟨r, ?_, h2⟩
  unfold concordanceref02_Tokens.f
  exact Ev.bind (rwords_ev s (by omega)) h1

/-! ### May: an error, or it is nice -/
def Nice (l : List Fd) : Prop := (∀ f ∈ l, nameB f.f0 = true) ∧ l.Pairwise (fun f g => f.f0 ≠ g.f0)
def Small (l : List Fd) : Prop := ∀ f ∈ l, f.f0.size ≤ 9223372036854775807 ∧ f.f1.size ≤ 40
theorem bytes_ne {a b : ByteArray} : a.toList = b.toList ↔ a = b := bytes_ext a b
theorem may_loop (id : Int) (l : List Fd) (hl : l.length ≤ 8) (hs : Small l) : ∀ (d i : Nat) (n : Nat), i + d = l.length → n ≤ 41 * i → Nice (l.take i) →
    (∃ e, Ev (fun k => concordanceref08_May.l0 k (n : Int) (i : Int) id l) e ∧ (e = 0 → Nice l)) := by
  intro d
  induction d with
  | zero =>
    intro i n hi hn hN
    rw [List.take_of_length_le (by omega)] at hN
    by_cases h : (n : Int) > 500
    · exact ⟨7, Ev.step (fun k => by rw [concordanceref08_May.l0]) (Ev.neg (by omega) (Ev.pos h (Ev.ret rfl))), fun e => (by cases e)⟩
    · exact ⟨0, Ev.step (fun k => by rw [concordanceref08_May.l0]) (Ev.neg (by omega) (Ev.neg h (Ev.ret rfl))), fun _ => hN⟩
  | succ d ih =>
    intro i n hi hn hN
    have hil : i < l.length := by omega
    have hsm := hs _ (List.getElem_mem hil)
    have hrd := rdF_nat l i hil
    have hnm := name_ev l[i].f0 hsm.1
    have hstep : ∀ e, Ev (fun k => (if nameB l[i].f0 = true then (concordanceref08_May.l1 k (n : Int) (i : Int) 0 id l) else (some 4))) e → Ev (fun k => concordanceref08_May.l0 k (n : Int) (i : Int) id l) e := by
      intro e he
      refine Ev.step (fun k => by rw [concordanceref08_May.l0, hrd]) (Ev.pos (by omega) (Ev.pos (by omega) (Ev.bind hnm he)))
    by_cases hb : nameB l[i].f0 = true
    · -- the inner loop
      have inner : ∀ (c m : Nat), m + c = i → (∀ q (hq : q < m) (hql : q < l.length), l[q].f0 ≠ l[i].f0) → ∃ e, Ev (fun k => concordanceref08_May.l1 k (n : Int) (i : Int) (m : Int) id l) e ∧ (e = 0 → Nice l) := by
        intro c
        induction c with
        | zero =>
          intro m hm hq
          obtain rfl : m = i := by omega
          obtain ⟨r, hr, h4, h5⟩ := tok_ev l[m].f1 (by have := hsm.2; omega)
          have hwl := wordsT_len l[m].f1
          have hgo : ∀ e, Ev (fun k => if r.2 = 0 then (concordanceref08_May.l0 k (wrap64 ((n : Int) + (r.1.length : Int))) (wrap64 ((m : Int) + 1)) id l) else (some r.2)) e → Ev (fun k => concordanceref08_May.l1 k (n : Int) (m : Int) (m : Int) id l) e := by
            intro e he
            refine Ev.step (fun k => by rw [concordanceref08_May.l1, hrd]) (Ev.neg (by omega) (Ev.pos (by omega) (Ev.pos (by omega) (Ev.bind hr he))))
          by_cases h0 : r.2 = 0
          · have hN2 : Nice (l.take (m + 1)) := by
              rw [List.take_succ_eq_append_getElem hil]
              refine ⟨fun f hf => ?_, List.pairwise_append.2 ⟨hN.2, List.pairwise_singleton _ _, fun f hf g hg => ?_⟩⟩
              · rcases List.mem_append.1 hf with hf | hf
                · exact hN.1 f hf
                · rw [List.mem_singleton.1 hf]; exact hb
              · rw [List.mem_singleton.1 hg]
                obtain ⟨q, hq1, rfl⟩ := List.mem_iff_getElem.1 hf
                rw [List.length_take] at hq1
                rw [List.getElem_take]
                exact hq q (by omega) (by omega)
            obtain ⟨e, he, h6⟩ := ih (m + 1) (n + r.1.length) (by omega) (by have := hsm.2; omega) hN2
            refine ⟨e, hgo e (Ev.pos h0 ?_), h6⟩
            have e1 : wrap64 ((n : Int) + (r.1.length : Int)) = ((n + r.1.length : Nat) : Int) := by rw [wrap_small _ (by have := hsm.2; omega)]; push_cast; rfl
            rw [e1, wrap_nat m (by omega)]
            exact he
          · exact ⟨r.2, hgo _ (Ev.neg h0 (Ev.ret rfl)), fun e => (h0 e).elim⟩
        | succ c ihc =>
          intro m hm hq
          have hml : m < l.length := by omega
          have hrm := rdF_nat l m hml
          by_cases heq : l[m].f0 = l[i].f0
          · exact ⟨5, Ev.step (fun k => by rw [concordanceref08_May.l1, hrd, hrm]) (Ev.pos (by omega) (Ev.pos (by omega) (Ev.pos (by omega) (Ev.pos (by omega) (Ev.pos (by omega) (Ev.pos (bytes_ne.2 heq) (Ev.ret rfl))))))), fun e => (by cases e)⟩
          · obtain ⟨e, he, h6⟩ := ihc (m + 1) (by omega) (fun q hq2 hql => by
              rcases Nat.lt_succ_iff_lt_or_eq.1 hq2 with h | h
              · exact hq q h hql
              · subst h; exact heq)
            refine ⟨e, Ev.step (fun k => by rw [concordanceref08_May.l1, hrd, hrm, wrap_nat m (by omega)]) (Ev.pos (by omega) (Ev.pos (by omega) (Ev.pos (by omega) (Ev.pos (by omega) (Ev.pos (by omega) (Ev.neg (fun h => heq (bytes_ne.1 h)) he)))))), h6⟩
      obtain ⟨e, he, h6⟩ := inner i 0 (by omega) (fun q hq _ => by omega)
      exact ⟨e, hstep e (Ev.pos hb he), h6⟩
    · exact ⟨4, hstep 4 (Ev.neg hb (Ev.ret rfl)), fun e => (by cases e)⟩
theorem may_ev (id : Int) (l : List Fd) (hs : Small l) : ∃ e, Ev (fun k => concordanceref08_May.f k id l) e ∧ (e = 0 → Nice l) := by
  by_cases h : (l.length : Int) > 8
  · exact ⟨7, by unfold concordanceref08_May.f; exact Ev.pos h (Ev.ret rfl), fun e => (by cases e)⟩
  · obtain ⟨e, he, h6⟩ := may_loop id l (by omega) hs l.length 0 0 (by omega) (by omega) ⟨by simp, by simp⟩
    exact ⟨e, by unfold concordanceref08_May.f; exact Ev.neg h he, h6⟩
end Go.Proofs.YteidebllianiiaaGreatDoor

/- Names and words of a document that may be: plain, and the print's functions of them. No condition. -/
set_option linter.unusedVariables false
set_option linter.unusedSimpArgs false
namespace Go.Proofs.YteidebllianiiaaGreatDoor
open Go.RowKit Go.Proofs.YteidebllianiiaaGreatDoor.PAll Go.Proofs.YteidebllianiiaaGreatDoorW.PrintWords Go.Proofs.YteidebllianiiaaGreatDoorW.PrintLast

/-! ### the error of a text's words -/
def tokE : List ByteArray → Nat → Int
  | [], _ => 0
  | x :: W, i => if 30 < x.size then 3 else if 500 ≤ i then 7 else tokE W (i + 1)
theorem wtok_loop (W : List ByteArray) (hW : W.length ≤ 1000000000) (d : Nat) : ∀ (i : Nat) (acc : List S108), i + d = W.length → acc.length = i → i ≤ 500 →
    ∃ r : List S108, Ev (fun k => word_Tokens.l0 k acc W (W.length : Int) (i : Int)) (r, tokE (W.drop i) i) ∧ (tokE (W.drop i) i = 0 → r.length = W.length) := by
  induction d with
  | zero =>
    intro i acc hi ha _
    rw [List.drop_eq_nil_of_le (by omega)]
    refine ⟨acc, Ev.step (fun k => by rw [word_Tokens.l0]) ?_, fun _ => by omega⟩
    exact Ev.neg (by omega) (Ev.ret rfl)
  | succ d ih =>
    intro i acc hi ha h5
    have hil : i < W.length := by omega
    have hrd := rdS_nat W i hil
    rw [List.drop_eq_getElem_cons hil]
    by_cases h2 : 30 < W[i].size
    · have e : tokE (W[i] :: W.drop (i + 1)) i = 3 := if_pos h2
      rw [e]
      exact ⟨[], Ev.step (fun k => by rw [word_Tokens.l0, hrd]) (Ev.pos (by omega) (Ev.pos (by omega) (Ev.pos (by omega) (Ev.pos (by omega) (Ev.ret rfl))))), fun h => by cases h⟩
    · by_cases h3 : i = 500
      · have e : tokE (W[i] :: W.drop (i + 1)) i = 7 := (if_neg h2).trans (if_pos (by omega))
        rw [e]
        exact ⟨[], Ev.step (fun k => by rw [word_Tokens.l0, hrd]) (Ev.pos (by omega) (Ev.pos (by omega) (Ev.pos (by omega) (Ev.neg (by omega) (Ev.pos (by omega) (Ev.ret rfl)))))), fun h => by cases h⟩
      · have e : tokE (W[i] :: W.drop (i + 1)) i = tokE (W.drop (i + 1)) (i + 1) := (if_neg h2).trans (if_neg (by omega))
        rw [e]
        obtain ⟨r, hr, h4⟩ := ih (i + 1) (acc ++ [⟨W[i], (i : Int)⟩]) (by omega) (by simp; omega) (by omega)
        exact ⟨r, Ev.step (fun k => by rw [word_Tokens.l0, hrd, wrap_nat i (by omega)]) (Ev.pos (by omega) (Ev.pos (by omega) (Ev.pos (by omega) (Ev.neg (by omega) (Ev.neg (by omega) (Ev.pos (by omega) hr)))))), h4⟩
theorem wtok_ev (s : ByteArray) (hs : s.size ≤ 100000000) : ∃ r : List S108, Ev (fun k => word_Tokens.f k s) (r, tokE (wordsT s) 0) ∧ (tokE (wordsT s) 0 = 0 → r.length = (wordsT s).length) := by
  have hl := wordsT_len s
  obtain ⟨r, h1, h2⟩ := wtok_loop (wordsT s) (by omega) (wordsT s).length 0 [] (by omega) rfl (by omega)
  refine ⟨r, ?_, h2⟩
  unfold word_Tokens.f
  exact Ev.const (show word_Words.f s = some (wordsT s) from if_pos (by omega)) h1

/-! ### names -/
theorem dw_nil {α : Type} (p : α → Bool) : ∀ l : List α, l.dropWhile p = [] ↔ ∀ x ∈ l, p x = true
  | [] => by simp
  | a :: l => by
    rw [List.dropWhile_cons]
    by_cases h : p a = true
    · rw [if_pos h, dw_nil p l]
      constructor
      · intro q x hx
        rcases List.mem_cons.1 hx with rfl | hx
        · exact h
        · exact q x hx
      · exact fun q x hx => q x (List.mem_cons_of_mem _ hx)
    · rw [if_neg h]
      constructor
      · intro q; cases q
      · exact fun q => absurd (q a List.mem_cons_self) h
theorem dw_head {α : Type} (p : α → Bool) : ∀ (l : List α) (a : α) (r : List α), l.dropWhile p = a :: r → p a = false
  | [], _, _, h => by cases h
  | b :: l, a, r, h => by
    rw [List.dropWhile_cons] at h
    by_cases hb : p b = true
    · rw [if_pos hb] at h; exact dw_head p l a r h
    · rw [if_neg hb] at h
      cases h
      simpa using hb
theorem trim_nil {α : Type} (p : α → Bool) (l : List α) : (l.reverse.dropWhile p).reverse.dropWhile p = [] ↔ ∀ x ∈ l, p x = true := by
  constructor
  · intro h
    cases hR : l.reverse.dropWhile p with
    | nil => exact fun x hx => (dw_nil p _).1 hR x (List.mem_reverse.2 hx)
    | cons a r =>
      have h1 := dw_head p _ a r hR
      have h2 := (dw_nil p _).1 h a (by rw [hR]; simp)
      rw [h1] at h2; cases h2
  · intro h
    rw [(dw_nil p _).2 (fun x hx => h x (List.mem_reverse.1 hx))]
    rfl
def smallS : ByteArray := ⟨#[97, 98, 99, 100, 101, 102, 103, 104, 105, 106, 107, 108, 109, 110, 111, 112, 113, 114, 115, 116, 117, 118, 119, 120, 121, 122]⟩
theorem small_low (c : UInt8) : smallS.data.toList.contains c = lowB c := by
  have h : ∀ n : Fin 256, smallS.data.toList.contains (UInt8.ofNat n.val) = lowB (UInt8.ofNat n.val) := by decide +kernel
  have := h ⟨c.toNat, c.toNat_lt⟩
  rwa [UInt8.ofNat_toNat] at this
theorem name_f (s : ByteArray) (hs : s.size ≤ 9223372036854775807) : doc_Name.f s = some (nameB s) := by
  unfold doc_Name.f nameB
  by_cases h0 : s.toList = []
  · rw [if_pos h0]
    have : s.size = 0 := by rw [ByteArray.toList_eq] at h0; rw [← size_data, h0]; rfl
    rw [decide_eq_false (show ¬ 1 ≤ s.size by omega), Bool.false_and, Bool.and_false]
  · rw [if_neg h0]
    have h1 : 1 ≤ s.size := by
      rcases Nat.eq_zero_or_pos s.size with h | h
      · exfalso; apply h0; rw [ByteArray.toList_eq]; exact List.eq_nil_of_length_eq_zero (by rw [size_data]; exact h)
      · exact h
    by_cases h2 : (s.size : Int) ≤ 12
    · rw [if_pos h2, decide_eq_true h1, decide_eq_true (show s.size ≤ 12 by omega), Bool.true_and, Bool.and_true]
      rw [show strings_Trim.f s ⟨#[97, 98, 99, 100, 101, 102, 103, 104, 105, 106, 107, 108, 109, 110, 111, 112, 113, 114, 115, 116, 117, 118, 119, 120, 121, 122]⟩ = some ⟨(Lib.trimS s.data.toList smallS.data.toList).toArray⟩ from if_pos ⟨hs, by decide, by decide⟩]
      show some _ = some _
      congr 1
      rw [ByteArray.toList_eq]
      have e : ((⟨(Lib.trimS s.data.toList smallS.data.toList).toArray⟩ : ByteArray).data.toList) = Lib.trimS s.data.toList smallS.data.toList := rfl
      rw [e]
      have hp : (fun x => smallS.data.toList.contains x) = lowB := funext small_low
      have ht : Lib.trimS s.data.toList smallS.data.toList = (s.data.toList.reverse.dropWhile lowB).reverse.dropWhile lowB := by
        unfold Lib.trimS Lib.trimLeftS Lib.trimRightS
        rw [hp]
      rw [ht]
      cases ha : s.data.toList.all lowB with
      | true => rw [(trim_nil lowB _).2 (List.all_eq_true.1 ha)]; rfl
      | false =>
        rw [beq_eq_false_iff_ne]
        intro h
        rw [List.all_eq_true.2 ((trim_nil lowB _).1 h)] at ha
        cases ha
    · rw [if_neg h2, decide_eq_false (show ¬ s.size ≤ 12 by omega), Bool.and_false, Bool.and_false]

/-! ### which documents may be -/
def mayD : List Fd → List Fd → Nat → Int
  | _, [], n => if 500 < n then 7 else 0
  | seen, f :: r, n => if nameB f.f0 = false then 4 else if seen.any (fun g => decide (g.f0 = f.f0)) = true then 5 else if tokE (wordsT f.f1) 0 = 0 then mayD (seen ++ [f]) r (n + (wordsT f.f1).length) else tokE (wordsT f.f1) 0
theorem mayD_nil (seen : List Fd) (n : Nat) : mayD seen [] n = if 500 < n then 7 else 0 := by rw [mayD]
theorem mayD_cons (seen : List Fd) (f : Fd) (r : List Fd) (n : Nat) : mayD seen (f :: r) n = if nameB f.f0 = false then 4 else if seen.any (fun g => decide (g.f0 = f.f0)) = true then 5 else if tokE (wordsT f.f1) 0 = 0 then mayD (seen ++ [f]) r (n + (wordsT f.f1).length) else tokE (wordsT f.f1) 0 := by rw [mayD]
def mayN (l : List Fd) : Int := if 8 < l.length then 7 else mayD [] l 0
end Go.Proofs.YteidebllianiiaaGreatDoor

/- The document's Good, Words: what they tell. Condition: names of few bytes. -/
set_option linter.unusedVariables false
set_option linter.unusedSimpArgs false
namespace Go.Proofs.YteidebllianiiaaGreatDoor
open Go.RowKit Go.Proofs.YteidebllianiiaaGreatDoor.PAll Go.Proofs.YteidebllianiiaaGreatDoorW.PrintWords Go.Proofs.YteidebllianiiaaGreatDoorW.PrintLast

def pool : List ByteArray := [⟨#[116]⟩, ⟨#[117]⟩, ⟨#[118]⟩, ⟨#[119]⟩]
/-- A field as it is taken over. -/
def fixF (i : Nat) (f : Fd) : Fd := ⟨if nameB f.f0 = true then f.f0 else rdOf ByteArray.empty pool (i : Int), f.f1.extract 0 ((mn ((f.f1).size : Int) 40 : Int)).toNat⟩
def fixes (l : List Fd) : List Fd := l.zipIdx.map (fun x => fixF x.2 x.1)
theorem fixes_len (l : List Fd) : (fixes l).length = l.length := by simp [fixes]
theorem fixes_take (l : List Fd) (i : Nat) (h : i < l.length) : (fixes l).take (i + 1) = (fixes l).take i ++ [fixF i l[i]] := by
  rw [List.take_succ_eq_append_getElem (by rw [fixes_len]; exact h)]
  simp [fixes]
theorem mn_40 (n : Nat) : mn (n : Int) 40 = ((min n 40 : Nat) : Int) := by unfold mn; split <;> omega
theorem fix_size (i : Nat) (f : Fd) (hi : i < 4) (hf : f.f0.size ≤ 9223372036854775807) : (fixF i f).f0.size ≤ 9223372036854775807 ∧ (fixF i f).f1.size ≤ 40 := by
  constructor
  · show (if nameB f.f0 = true then f.f0 else rdOf ByteArray.empty pool (i : Int)).size ≤ _
    split
    · exact hf
    · have : i = 0 ∨ i = 1 ∨ i = 2 ∨ i = 3 := by omega
      rcases this with rfl | rfl | rfl | rfl <;> decide
  · show (f.f1.extract 0 _).size ≤ 40
    rw [mn_40, Int.toNat_natCast]
    simp [ByteArray.size_extract]
    omega
structure Fine (l out : List Fd) : Prop where
  nice : Nice out
  sub : out.Sublist (fixes l)
  small : Small out
  few : out.length ≤ 4
theorem good_loop (id : Int) (l : List Fd) (hl : l.length ≤ 9223372036854775807) (hs : ∀ f ∈ l, f.f0.size ≤ 9223372036854775807) : ∀ (d i : Nat) (out : List Fd), i + d = min l.length 4 → Nice out → out.Sublist ((fixes l).take i) → Small out → out.length ≤ i →
    ∃ g, Ev (fun k => concordanceref08_Good.l0 k pool (i : Int) id l id out) (id, g) ∧ Fine l g := by
  intro d
  induction d with
  | zero =>
    intro i out hi hN hsub hsm hol
    refine ⟨out, ?_, hN, hsub.trans (List.take_sublist _ _), hsm, by omega⟩
    by_cases h : i < l.length
    · refine Ev.step (fun k => by rw [concordanceref08_Good.l0]) (Ev.pos (by omega) ?_)
      rw [show decide ((i : Int) < 4) = false from decide_eq_false (by omega)]
      exact Ev.step (fun k => by rw [concordanceref08_Good.j1]) (Ev.neg (by decide) (Ev.ret rfl))
    · refine Ev.step (fun k => by rw [concordanceref08_Good.l0]) (Ev.neg (by omega) ?_)
      exact Ev.step (fun k => by rw [concordanceref08_Good.j1]) (Ev.neg (by decide) (Ev.ret rfl))
  | succ d ih =>
    intro i out hi hN hsub hsm hol
    have hil : i < l.length := by omega
    have hi4 : i < 4 := by omega
    have hrd := rdF_nat l i hil
    have hf0 := hs _ (List.getElem_mem hil)
    have hnm := name_ev l[i].f0 hf0
    have hfx := fixes_take l i hil
    have hfs := fix_size i l[i] hi4 hf0
    have hsm2 : Small (out ++ [fixF i l[i]]) := by
      intro f hf
      rcases List.mem_append.1 hf with hf | hf
      · exact hsm f hf
      · rw [List.mem_singleton.1 hf]; exact hfs
    obtain ⟨e, he, h6⟩ := may_ev id (out ++ [fixF i l[i]]) hsm2
    obtain ⟨g, hg, h7⟩ : ∃ g, Ev (fun k => if e = 0 then (concordanceref08_Good.l0 k pool (wrap64 ((i : Int) + 1)) id l id (out ++ [fixF i l[i]])) else (concordanceref08_Good.l0 k pool (wrap64 ((i : Int) + 1)) id l id out)) (id, g) ∧ Fine l g := by
      rw [wrap_nat i (by omega)]
      by_cases h0 : e = 0
      · obtain ⟨g, hg, h7⟩ := ih (i + 1) (out ++ [fixF i l[i]]) (by omega) (h6 h0) (by rw [hfx]; exact hsub.append (List.Sublist.refl _)) hsm2 (by simp; omega)
        exact ⟨g, Ev.pos h0 hg, h7⟩
      · obtain ⟨g, hg, h7⟩ := ih (i + 1) out (by omega) hN (by rw [hfx]; exact hsub.trans (List.sublist_append_left _ _)) hsm (by omega)
        exact ⟨g, Ev.neg h0 hg, h7⟩
    refine ⟨g, ?_, h7⟩
    have hmn : (0 : Int) ≤ mn ((l[i].f1).size : Int) 40 := by rw [mn_40]; omega
    have hmn2 : mn ((l[i].f1).size : Int) 40 ≤ ((l[i].f1).size : Int) := by rw [mn_40]; omega
    refine Ev.step (fun k => by rw [concordanceref08_Good.l0]) (Ev.pos (by omega) ?_)
    rw [show decide ((i : Int) < 4) = true from decide_eq_true (by omega)]
    refine Ev.step (fun k => by rw [concordanceref08_Good.j1, hrd]) (Ev.pos rfl (Ev.pos (by omega) (Ev.pos (by omega) (Ev.bind hnm ?_))))
    by_cases hb : nameB l[i].f0 = true
    · have hfe : fixF i l[i] = ⟨l[i].f0, l[i].f1.extract 0 ((mn ((l[i].f1).size : Int) 40 : Int)).toNat⟩ := by unfold fixF; rw [if_pos hb]
      rw [hfe] at he hg
      exact Ev.pos hb (Ev.pos hmn (Ev.pos hmn2 (Ev.pos (by simp; omega) (Ev.const (a := out) (by simp) (Ev.pos (by omega) (Ev.const rfl (Ev.bind he hg)))))))
    · have hfe : fixF i l[i] = ⟨rdOf ByteArray.empty pool (i : Int), l[i].f1.extract 0 ((mn ((l[i].f1).size : Int) 40 : Int)).toNat⟩ := by unfold fixF; rw [if_neg hb]
      rw [hfe] at he hg
      exact Ev.neg hb (Ev.pos (by show (i : Int) < ((4 : Nat) : Int); omega) (Ev.pos hmn (Ev.pos hmn2 (Ev.pos (by simp; omega) (Ev.const (a := out) (by simp) (Ev.pos (by omega) (Ev.const rfl (Ev.bind he hg))))))))
theorem good_ev (id : Int) (l : List Fd) (hl : l.length ≤ 9223372036854775807) (hs : ∀ f ∈ l, f.f0.size ≤ 9223372036854775807) : ∃ g, Ev (fun k => concordanceref08_Good.f k id l) (id, g) ∧ Fine l g := by
  obtain ⟨g, hg, h⟩ := good_loop id l hl hs (min l.length 4) 0 [] (by omega) ⟨by simp, by simp⟩ (by simp) (by simp [Small]) (by simp)
  exact ⟨g, by unfold concordanceref08_Good.f; exact hg, h⟩
theorem Fine.doc {l g : List Fd} (h : Fine l g) : docOk g ∧ namesOk g :=
  ⟨⟨by have := h.few; omega, fun f hf => by have := (h.small f hf).2; omega⟩, fun f hf => ⟨by have := name_size (h.nice.1 f hf); omega, name_zero (h.nice.1 f hf)⟩⟩

/-! ### Words -/
def words8 (l : List Fd) (a : ByteArray) : List ByteArray := match l.find? (fun f => decide (f.f0 = a)) with
  | some f => wordsT f.f1
  | none => []
theorem words8_loop (id : Int) (l : List Fd) (a : ByteArray) (hl : l.length ≤ 1000000) (hs : ∀ f ∈ l, f.f1.size ≤ 1000000) (d : Nat) : ∀ i : Nat, i + d = l.length → Ev (fun k => concordanceref08_Words.l0 k a (i : Int) id l) (words8 (l.drop i) a) := by
  induction d with
  | zero =>
    intro i hi
    refine Ev.step (fun k => by rw [concordanceref08_Words.l0]) (Ev.neg (by omega) (Ev.ret ?_))
    rw [List.drop_eq_nil_of_le (by omega)]; rfl
  | succ d ih =>
    intro i hi
    have hil : i < l.length := by omega
    have hrd := rdF_nat l i hil
    have hg := ih (i + 1) (by omega)
    rw [List.drop_eq_getElem_cons hil]
    refine Ev.step (fun k => by rw [concordanceref08_Words.l0, hrd, wrap_nat i (by omega)]) (Ev.pos (by omega) (Ev.pos (by omega) ?_))
    unfold words8
    rw [List.find?_cons]
    by_cases he : l[i].f0 = a
    · rw [decide_eq_true he]
      exact Ev.pos (bytes_ne.2 he) (Ev.bind (rwords_ev l[i].f1 (by have := hs _ (List.getElem_mem hil); omega)) (Ev.ret rfl))
    · rw [decide_eq_false he]
      exact Ev.neg (fun h => he (bytes_ne.1 h)) hg
theorem words8_ev (id : Int) (l : List Fd) (a : ByteArray) (h : docOk l) : Ev (fun k => concordanceref08_Words.f k id l a) (words8 l a) := by
  unfold concordanceref08_Words.f
  exact words8_loop id l a (by have := h.1; omega) h.2 l.length 0 (by omega)
/-- Names each once: a field's words are its own. -/
theorem words8_own {l : List Fd} (h : Nice l) (i : Nat) (hi : i < l.length) : words8 l l[i].f0 = wordsT l[i].f1 := by
  unfold words8
  have : l.find? (fun f => decide (f.f0 = l[i].f0)) = some l[i] := by
    rw [List.find?_eq_some_iff_getElem]
    refine ⟨by simp, i, hi, rfl, fun j hj => ?_⟩
    simp only [Bool.not_eq_true', decide_eq_false_iff_not]
    exact List.pairwise_iff_getElem.1 h.2 j i (by omega) hi hj
  rw [this]
theorem words8_len (l : List Fd) (a : ByteArray) (h : docOk l) : (words8 l a).length ≤ 1000001 := by
  unfold words8
  split
  · rename_i f hf
    have := wordsT_len f.f1
    have := h.2 f (List.mem_of_find?_eq_some hf)
    omega
  · simp
end Go.Proofs.YteidebllianiiaaGreatDoor

/- The document's May, told exactly; what its Good makes may be. No condition. -/
set_option linter.unusedVariables false
set_option linter.unusedSimpArgs false
namespace Go.Proofs.YteidebllianiiaaGreatDoor
open Go.RowKit Go.Proofs.YteidebllianiiaaGreatDoor.PAll Go.Proofs.YteidebllianiiaaGreatDoorW.PrintWords Go.Proofs.YteidebllianiiaaGreatDoorW.PrintLast

theorem rtok_loop (W : List ByteArray) (hW : W.length ≤ 1000000000) (d : Nat) : ∀ (i : Nat) (acc : List S108), i + d = W.length → acc.length = i →
    ∃ r : List S108, Ev (fun k => concordanceref02_Tokens.l0 k W acc (i : Int)) (r, tokE (W.drop i) i) ∧ (tokE (W.drop i) i = 0 → r.length = W.length) := by
  induction d with
  | zero =>
    intro i acc hi ha
    rw [List.drop_eq_nil_of_le (by omega)]
    refine ⟨acc, Ev.step (fun k => by rw [concordanceref02_Tokens.l0]) ?_, fun _ => by omega⟩
    exact Ev.neg (by omega) (Ev.ret rfl)
  | succ d ih =>
    intro i acc hi ha
    have hil : i < W.length := by omega
    have hrd := rdS_nat W i hil
    rw [List.drop_eq_getElem_cons hil]
    by_cases h2 : 30 < W[i].size
    · have e : tokE (W[i] :: W.drop (i + 1)) i = 3 := if_pos h2
      rw [e]
      exact ⟨[], Ev.step (fun k => by rw [concordanceref02_Tokens.l0, hrd]) (Ev.pos (by omega) (Ev.pos (by omega) (Ev.pos (by omega) (Ev.ret rfl)))), fun h => by cases h⟩
    · by_cases h3 : 500 ≤ i
      · have e : tokE (W[i] :: W.drop (i + 1)) i = 7 := (if_neg h2).trans (if_pos h3)
        rw [e]
        exact ⟨[], Ev.step (fun k => by rw [concordanceref02_Tokens.l0, hrd]) (Ev.pos (by omega) (Ev.pos (by omega) (Ev.neg (by omega) (Ev.pos (by omega) (Ev.ret rfl))))), fun h => by cases h⟩
      · have e : tokE (W[i] :: W.drop (i + 1)) i = tokE (W.drop (i + 1)) (i + 1) := (if_neg h2).trans (if_neg h3)
        rw [e]
        obtain ⟨r, hr, h4⟩ := ih (i + 1) (acc ++ [⟨W[i], (i : Int)⟩]) (by omega) (by simp; omega)
        exact ⟨r, Ev.step (fun k => by rw [concordanceref02_Tokens.l0, hrd, wrap_nat i (by omega)]) (Ev.pos (by omega) (Ev.pos (by omega) (Ev.neg (by omega) (Ev.neg (by omega) (Ev.pos (by omega) hr))))), h4⟩
theorem rtok_ev (s : ByteArray) (hs : s.size ≤ 100000000) : ∃ r : List S108, Ev (fun k => concordanceref02_Tokens.f k s) (r, tokE (wordsT s) 0) ∧ (tokE (wordsT s) 0 = 0 → r.length = (wordsT s).length) := by
  have hl := wordsT_len s
  obtain ⟨r, h1, h2⟩ := rtok_loop (wordsT s) (by omega) (wordsT s).length 0 [] (by omega) rfl
  refine ⟨r, ?_, h2⟩
  unfold concordanceref02_Tokens.f
  exact Ev.bind (rwords_ev s (by omega)) h1
def Slim (l : List Fd) : Prop := ∀ f ∈ l, f.f0.size ≤ 9223372036854775807 ∧ f.f1.size ≤ 1000000
theorem rmay_loop (id : Int) (l : List Fd) (hl : l.length ≤ 1000) (hz : Slim l) (d : Nat) : ∀ i n : Nat, i + d = l.length → n ≤ 1000001 * i →
    Ev (fun k => concordanceref08_May.l0 k (n : Int) (i : Int) id l) (mayD (l.take i) (l.drop i) n) := by
  induction d with
  | zero =>
    intro i n hi hn
    rw [List.drop_eq_nil_of_le (by omega), mayD_nil]
    refine Ev.step (fun k => by rw [concordanceref08_May.l0]) ?_
    refine Ev.neg (by omega) ?_
    by_cases h5 : 500 < n
    · rw [if_pos h5]; exact Ev.pos (by omega) (Ev.ret rfl)
    · rw [if_neg h5]; exact Ev.neg (by omega) (Ev.ret rfl)
  | succ d ih =>
    intro i n hi hn
    have hil : i < l.length := by omega
    have hrd := rdF_nat l i hil
    obtain ⟨hz0, hz1⟩ := hz _ (List.getElem_mem hil)
    have htk : l.take (i + 1) = l.take i ++ [l[i]] := List.take_succ_eq_append_getElem hil
    rw [List.drop_eq_getElem_cons hil, mayD_cons]
    refine Ev.step (fun k => by rw [concordanceref08_May.l0, hrd]) ?_
    refine Ev.pos (by omega) <| Ev.pos (by omega) <| Ev.bind (name_ev _ hz0) ?_
    by_cases hnb : nameB l[i].f0 = true
    · rw [if_neg (show ¬ nameB l[i].f0 = false by rw [hnb]; decide)]
      refine Ev.pos hnb ?_
      have inner : ∀ e j : Nat, j + e = i → (∀ g ∈ l.take j, g.f0 ≠ l[i].f0) → Ev (fun k => concordanceref08_May.l1 k (n : Int) (i : Int) (j : Int) id l) (if (l.take i).any (fun g => decide (g.f0 = l[i].f0)) = true then 5 else if tokE (wordsT l[i].f1) 0 = 0 then mayD (l.take i ++ [l[i]]) (l.drop (i + 1)) (n + (wordsT l[i].f1).length) else tokE (wordsT l[i].f1) 0) := by
        intro e
        induction e with
        | zero =>
          intro j hj hno
          have hj : j = i := by omega
          subst hj
          have hna : ¬ (l.take j).any (fun g => decide (g.f0 = l[j].f0)) = true := by
            intro h
            obtain ⟨g, hg, h2⟩ := List.any_eq_true.1 h
            exact hno g hg (of_decide_eq_true h2)
          rw [if_neg hna]
          obtain ⟨r, hr, hrl⟩ := rtok_ev l[j].f1 (by omega)
          have hwl := wordsT_len l[j].f1
          refine Ev.step (fun k => by rw [concordanceref08_May.l1, hrd, wrap_nat j (by omega)]) ?_
          refine Ev.neg (by omega) <| Ev.pos (by omega) <| Ev.pos (by omega) <| Ev.bind hr ?_
          by_cases ht : tokE (wordsT l[j].f1) 0 = 0
          · rw [if_pos ht, ← htk]
            refine Ev.pos ht ?_
            have h2 := ih (j + 1) (n + (wordsT l[j].f1).length) (by omega) (by omega)
            show Ev (fun k => concordanceref08_May.l0 k (wrap64 ((n : Int) + (r.length : Int))) _ id l) _
            rw [hrl ht, wrap_small _ (by omega), ← Int.natCast_add]
            exact h2
          · rw [if_neg ht]
            exact Ev.neg ht (Ev.ret rfl)
        | succ e ihe =>
          intro j hj hno
          have hjl : j < l.length := by omega
          have hrj := rdF_nat l j hjl
          refine Ev.step (fun k => by rw [concordanceref08_May.l1, hrd, hrj, wrap_nat j (by omega)]) ?_
          refine Ev.pos (by omega) <| Ev.pos (by omega) <| Ev.pos (by omega) <| Ev.pos (by omega) <| Ev.pos (by omega) ?_
          by_cases he : l[j].f0 = l[i].f0
          · refine Ev.pos (by rw [he]) ?_
            have hmem : l[j] ∈ l.take i := by
              have h3 : j < (l.take i).length := by rw [List.length_take]; omega
              have := List.getElem_mem h3
              rwa [List.getElem_take] at this
            rw [if_pos (List.any_eq_true.2 ⟨_, hmem, decide_eq_true he⟩)]
            exact Ev.ret rfl
          · refine Ev.neg (fun h => he (bytes_ne.1 h)) ?_
            refine ihe (j + 1) (by omega) (fun g hg => ?_)
            rw [List.take_succ_eq_append_getElem hjl] at hg
            rcases List.mem_append.1 hg with h | h
            · exact hno g h
            · rw [List.mem_singleton.1 h]; exact he
      exact inner i 0 (by omega) (by simp)
    · have hnf : nameB l[i].f0 = false := by simpa using hnb
      rw [if_pos hnf]
      exact Ev.neg hnb (Ev.ret rfl)
theorem rmay_ev (id : Int) (l : List Fd) (hl : l.length ≤ 1000) (hz : Slim l) : Ev (fun k => concordanceref08_May.f k id l) (mayN l) := by
  unfold concordanceref08_May.f mayN
  by_cases h8 : 8 < l.length
  · rw [if_pos h8]; exact Ev.pos (by omega) (Ev.ret rfl)
  · rw [if_neg h8]
    exact Ev.neg (by omega) (rmay_loop id l hl hz l.length 0 0 (by omega) (by omega))
theorem may2_ev (id : Int) (l : List Fd) (hs : Small l) (hl : l.length ≤ 1000) : ∃ e, Ev (fun k => concordanceref08_May.f k id l) e ∧ (e = 0 → Nice l ∧ mayN l = 0) := by
  obtain ⟨e, he, h1⟩ := may_ev id l hs
  have h2 := rmay_ev id l hl (fun f hf => ⟨(hs f hf).1, by have := (hs f hf).2; omega⟩)
  obtain ⟨ka, ha⟩ := he
  obtain ⟨kb, hb⟩ := h2
  have e2 : e = mayN l := Option.some.inj ((ha (ka + kb) (by omega)).symm.trans (hb (ka + kb) (by omega)))
  have he : Ev (fun k => concordanceref08_May.f k id l) e := ⟨ka, ha⟩
  exact ⟨e, he, fun h => ⟨h1 h, e2 ▸ h⟩⟩
structure Fine2 (l out : List Fd) : Prop where
  nice : (Nice out ∧ mayN out = 0)
  sub : out.Sublist (fixes l)
  small : Small out
  few : out.length ≤ 4
theorem good2_loop (id : Int) (l : List Fd) (hl : l.length ≤ 9223372036854775807) (hs : ∀ f ∈ l, f.f0.size ≤ 9223372036854775807) : ∀ (d i : Nat) (out : List Fd), i + d = min l.length 4 → (Nice out ∧ mayN out = 0) → out.Sublist ((fixes l).take i) → Small out → out.length ≤ i →
    ∃ g, Ev (fun k => concordanceref08_Good.l0 k pool (i : Int) id l id out) (id, g) ∧ Fine2 l g := by
  intro d
  induction d with
  | zero =>
    intro i out hi hN hsub hsm hol
    refine ⟨out, ?_, hN, hsub.trans (List.take_sublist _ _), hsm, by omega⟩
    by_cases h : i < l.length
    · refine Ev.step (fun k => by rw [concordanceref08_Good.l0]) (Ev.pos (by omega) ?_)
      rw [show decide ((i : Int) < 4) = false from decide_eq_false (by omega)]
      exact Ev.step (fun k => by rw [concordanceref08_Good.j1]) (Ev.neg (by decide) (Ev.ret rfl))
    · refine Ev.step (fun k => by rw [concordanceref08_Good.l0]) (Ev.neg (by omega) ?_)
      exact Ev.step (fun k => by rw [concordanceref08_Good.j1]) (Ev.neg (by decide) (Ev.ret rfl))
  | succ d ih =>
    intro i out hi hN hsub hsm hol
    have hil : i < l.length := by omega
    have hi4 : i < 4 := by omega
    have hrd := rdF_nat l i hil
    have hf0 := hs _ (List.getElem_mem hil)
    have hnm := name_ev l[i].f0 hf0
    have hfx := fixes_take l i hil
    have hfs := fix_size i l[i] hi4 hf0
    have hsm2 : Small (out ++ [fixF i l[i]]) := by
      intro f hf
      rcases List.mem_append.1 hf with hf | hf
      · exact hsm f hf
      · rw [List.mem_singleton.1 hf]; exact hfs
    obtain ⟨e, he, h6⟩ := may2_ev id (out ++ [fixF i l[i]]) hsm2 (by simp; omega)
    obtain ⟨g, hg, h7⟩ : ∃ g, Ev (fun k => if e = 0 then (concordanceref08_Good.l0 k pool (wrap64 ((i : Int) + 1)) id l id (out ++ [fixF i l[i]])) else (concordanceref08_Good.l0 k pool (wrap64 ((i : Int) + 1)) id l id out)) (id, g) ∧ Fine2 l g := by
      rw [wrap_nat i (by omega)]
      by_cases h0 : e = 0
      · obtain ⟨g, hg, h7⟩ := ih (i + 1) (out ++ [fixF i l[i]]) (by omega) (h6 h0) (by rw [hfx]; exact hsub.append (List.Sublist.refl _)) hsm2 (by simp; omega)
        exact ⟨g, Ev.pos h0 hg, h7⟩
      · obtain ⟨g, hg, h7⟩ := ih (i + 1) out (by omega) hN (by rw [hfx]; exact hsub.trans (List.sublist_append_left _ _)) hsm (by omega)
        exact ⟨g, Ev.neg h0 hg, h7⟩
    refine ⟨g, ?_, h7⟩
    have hmn : (0 : Int) ≤ mn ((l[i].f1).size : Int) 40 := by rw [mn_40]; omega
    have hmn2 : mn ((l[i].f1).size : Int) 40 ≤ ((l[i].f1).size : Int) := by rw [mn_40]; omega
    refine Ev.step (fun k => by rw [concordanceref08_Good.l0]) (Ev.pos (by omega) ?_)
    rw [show decide ((i : Int) < 4) = true from decide_eq_true (by omega)]
    refine Ev.step (fun k => by rw [concordanceref08_Good.j1, hrd]) (Ev.pos rfl (Ev.pos (by omega) (Ev.pos (by omega) (Ev.bind hnm ?_))))
    by_cases hb : nameB l[i].f0 = true
    · have hfe : fixF i l[i] = ⟨l[i].f0, l[i].f1.extract 0 ((mn ((l[i].f1).size : Int) 40 : Int)).toNat⟩ := by unfold fixF; rw [if_pos hb]
      rw [hfe] at he hg
      exact Ev.pos hb (Ev.pos hmn (Ev.pos hmn2 (Ev.pos (by simp; omega) (Ev.const (a := out) (by simp) (Ev.pos (by omega) (Ev.const rfl (Ev.bind he hg)))))))
    · have hfe : fixF i l[i] = ⟨rdOf ByteArray.empty pool (i : Int), l[i].f1.extract 0 ((mn ((l[i].f1).size : Int) 40 : Int)).toNat⟩ := by unfold fixF; rw [if_neg hb]
      rw [hfe] at he hg
      exact Ev.neg hb (Ev.pos (by show (i : Int) < ((4 : Nat) : Int); omega) (Ev.pos hmn (Ev.pos hmn2 (Ev.pos (by simp; omega) (Ev.const (a := out) (by simp) (Ev.pos (by omega) (Ev.const rfl (Ev.bind he hg))))))))
theorem good2_ev (id : Int) (l : List Fd) (hl : l.length ≤ 9223372036854775807) (hs : ∀ f ∈ l, f.f0.size ≤ 9223372036854775807) : ∃ g, Ev (fun k => concordanceref08_Good.f k id l) (id, g) ∧ Fine2 l g := by
  obtain ⟨g, hg, h⟩ := good2_loop id l hl hs (min l.length 4) 0 [] (by omega) ⟨⟨by simp, by simp⟩, rfl⟩ (by simp) (by simp [Small]) (by simp)
  exact ⟨g, by unfold concordanceref08_Good.f; exact hg, h⟩
end Go.Proofs.YteidebllianiiaaGreatDoor

/- The document's Phrase, Places, Terms, Weight, and doc.Phrase: what they tell. Condition: few bytes, names each once. -/
set_option linter.unusedVariables false
set_option linter.unusedSimpArgs false
namespace Go.Proofs.YteidebllianiiaaGreatDoor
open Go.RowKit Go.Proofs.YteidebllianiiaaGreatDoor.PAll Go.Proofs.YteidebllianiiaaGreatDoorW.PrintWords Go.Proofs.YteidebllianiiaaGreatDoorW.PrintLast

theorem rdS_lt (l : List ByteArray) (i : Nat) (h : i < l.length) : rdOf ByteArray.empty l (i : Int) = l[i] := rdS_nat l i h
/-! ### are texts the same? -/

theorem same1_loop (a b : List Int) (hl : a.length = b.length) (hn : a.length ≤ 1000000000000) (h : a = b) (d : Nat) : ∀ i : Nat, i + d = a.length → Ev (fun k => concordanceref01_Same.l0 k a b (i : Int)) true := by
  subst h
  induction d with
  | zero =>
    intro i hi
    exact Ev.step (fun k => by rw [concordanceref01_Same.l0]) (Ev.neg (by omega) (Ev.ret rfl))
  | succ d ih =>
    intro i hi
    exact Ev.step (fun k => by rw [concordanceref01_Same.l0, wrap_nat i (by omega)]) (Ev.pos (by omega) (Ev.pos (by omega) (Ev.pos (by omega) (Ev.pos rfl (ih (i + 1) (by omega))))))
theorem same1_ev (a : List Int) (hn : a.length ≤ 1000000000000) : Ev (fun k => concordanceref01_Same.f k a a) true := by
  unfold concordanceref01_Same.f
  exact Ev.pos rfl (same1_loop a a rfl hn rfl a.length 0 (by omega))

end Go.Proofs.YteidebllianiiaaGreatDoor

/- The document's Places, Terms, Weight; the example. Condition: few bytes, names each once. -/
set_option linter.unusedVariables false
set_option linter.unusedSimpArgs false
namespace Go.Proofs.YteidebllianiiaaGreatDoor
open Go.RowKit Go.Proofs.YteidebllianiiaaGreatDoor.PAll Go.Proofs.YteidebllianiiaaGreatDoorW.PrintWords Go.Proofs.YteidebllianiiaaGreatDoorW.PrintLast

/-! ### Places -/
/-- Where a word stands. -/
def plc (L : List ByteArray) (w : ByteArray) : List Int := (L.zipIdx.filter (fun x => decide (x.1 = w))).map (fun x => (x.2 : Int))
theorem plc_take (L : List ByteArray) (w : ByteArray) (i : Nat) (h : i < L.length) : plc (L.take (i + 1)) w = plc (L.take i) w ++ (if L[i] = w then [(i : Int)] else []) := by
  unfold plc
  rw [List.take_succ_eq_append_getElem h, List.zipIdx_append, List.filter_append, List.map_append]
  congr 1
  rw [List.length_take, Nat.min_eq_left (by omega)]
  by_cases e : L[i] = w <;> simp [e]
theorem plc_len (L : List ByteArray) (w : ByteArray) : (plc L w).length ≤ L.length := by
  unfold plc
  rw [List.length_map]
  exact Nat.le_trans (List.length_filter_le _ _) (by simp)
theorem places_loop (L : List ByteArray) (f w : ByteArray) (hL : L.length ≤ 1000000000) (d : Nat) : ∀ i : Nat, i + d = L.length → Ev (fun k => concordanceref08_Places.l0 k (plc (L.take i) w) L (i : Int) f w) (plc L w) := by
  induction d with
  | zero =>
    intro i hi
    refine Ev.step (fun k => by rw [concordanceref08_Places.l0]) (Ev.neg (by omega) (Ev.ret ?_))
    rw [List.take_of_length_le (by omega)]
  | succ d ih =>
    intro i hi
    have hil : i < L.length := by omega
    have hg := ih (i + 1) (by omega)
    rw [plc_take L w i hil] at hg
    have hb := plc_len (L.take i) w
    rw [List.length_take] at hb
    refine Ev.step (fun k => by rw [concordanceref08_Places.l0, rdS_lt L i hil, wrap_nat i (by omega)]) (Ev.pos (by omega) (Ev.pos (by omega) ?_))
    by_cases he : L[i] = w
    · rw [if_pos he] at hg
      exact Ev.pos (bytes_ne.2 he) (Ev.pos (by omega) hg)
    · rw [if_neg he, List.append_nil] at hg
      exact Ev.neg (fun h => he (bytes_ne.1 h)) hg
theorem places_ev (id : Int) (l : List Fd) (f w : ByteArray) (h : docOk l) : Ev (fun k => concordanceref08_Places.f k id l f w) (plc (words8 l f) w) := by
  unfold concordanceref08_Places.f
  exact Ev.bind (words8_ev id l f h) (places_loop (words8 l f) f w (by have := words8_len l f h; omega) (words8 l f).length 0 (by omega))
theorem placesIn_append (a b : List Occ) (t : Tm) : placesIn (a ++ b) t = placesIn a t ++ placesIn b t := by unfold placesIn; rw [List.filter_append, List.map_append]
theorem placesIn_F (f : ByteArray) (L : List ByteArray) (t : Tm) : placesIn (occF f L) t = if f = t.1 then plc L t.2 else [] := by
  unfold placesIn occF plc
  rw [List.filter_map, List.map_map]
  by_cases e : f = t.1
  · subst e
    rw [if_pos rfl]
    congr 1
    apply List.filter_congr
    intro x _
    show decide (tmOf (t.1, x.1, x.2) = t) = decide (x.1 = t.2)
    rw [decide_eq_decide]
    exact ⟨fun h => congrArg Prod.snd h, fun h => Prod.ext rfl h⟩
  · rw [if_neg e]
    have : L.zipIdx.filter ((fun o => decide (tmOf o = t)) ∘ fun x => (f, x.1, x.2)) = [] := by
      rw [List.filter_eq_nil_iff]
      intro x _ h
      have h2 : tmOf (f, x.1, x.2) = t := by simpa using h
      exact e (congrArg Prod.fst h2)
    rw [this]; rfl
theorem places_own {l : List Fd} (h : l.Pairwise (fun f g => f.f0 ≠ g.f0)) (t : Tm) : placesIn (occ l) t = plc (words8 l t.1) t.2 := by
  induction l with
  | nil => rfl
  | cons f l ih =>
    obtain ⟨h1, h2⟩ := List.pairwise_cons.1 h
    have ih := ih h2
    have e : occ (f :: l) = occF f.f0 (wordsT f.f1) ++ occ l := by unfold occ; rw [List.flatMap_cons]
    rw [e, placesIn_append, placesIn_F]
    by_cases he : f.f0 = t.1
    · have hz : placesIn (occ l) t = [] := by
        rw [ih]
        have : words8 l t.1 = [] := by
          unfold words8
          rw [List.find?_eq_none.2 (fun g hg => by simpa using fun q => h1 g hg (he.trans q.symm))]
        rw [this]; rfl
      rw [if_pos he, hz, List.append_nil]
      unfold words8
      rw [List.find?_cons, decide_eq_true he]
    · rw [if_neg he, List.nil_append, ih]
      unfold words8
      rw [List.find?_cons, decide_eq_false he]

/-! ### Terms -/
theorem toS_rd (l : List Tm) (i : Nat) (h : i < l.length) : rd_T70 (l.map toS) (i : Int) = toS l[i] := by
  unfold rd_T70
  rw [Int.toNat_natCast, List.getD_eq_getElem?_getD, List.getElem?_map, List.getElem?_eq_getElem h]; rfl
theorem rkey (t : Tm) (h : Tiny t) : concordanceref02_Key.f t.1 t.2 = some (keyS t) := by
  have h1 := h.1
  have h2 := h.2
  have e : (t.1 ++ (⟨#[0]⟩ : ByteArray)).size = t.1.size + 1 := by rw [ByteArray.size_append]; rfl
  unfold concordanceref02_Key.f
  rw [if_pos (by omega), if_pos (by rw [e]; omega)]
  rfl
theorem keyS_list (t : Tm) : (keyS t).toList = keyB t := by rw [ByteArray.toList_eq, keyS_data]
theorem insT_split {l : List Tm} {t : Tm} (hr : Rise l) (hz : ∀ u ∈ l, NoZero u.1.data.toList) (ht : NoZero t.1.data.toList) (j : Nat) (hj : j ≤ l.length) (hhi : ∀ q (hq : q < l.length), j ≤ q → keyB t < keyB l[q]) (hlo : ∀ (h0 : 0 < j), ¬ keyB t < keyB (l[j - 1]'(by omega)) ∧ l[j - 1]'(by omega) ≠ t) :
    insT l t = l.take j ++ t :: l.drop j := by
  refine rise_unique (rise_insT t hr hz ht) ?_ (fun u => ?_)
  · refine List.pairwise_append.2 ⟨List.Pairwise.sublist (List.take_sublist _ _) hr, List.pairwise_cons.2 ⟨fun u hu => ?_, List.Pairwise.sublist (List.drop_sublist _ _) hr⟩, fun u hu v hv => ?_⟩
    · obtain ⟨q, hq, rfl⟩ := List.mem_iff_getElem.1 hu
      rw [List.length_drop] at hq
      rw [List.getElem_drop]
      exact hhi (j + q) (by omega) (by omega)
    · obtain ⟨q, hq, rfl⟩ := List.mem_iff_getElem.1 hu
      rw [List.length_take] at hq
      rw [List.getElem_take]
      have hj0 : 0 < j := by omega
      obtain ⟨n1, n2⟩ := hlo hj0
      have hlast : keyB (l[j - 1]'(by omega)) < keyB t := Classical.byContradiction fun hn => n2 (key_inj (hz _ (List.getElem_mem _)) ht (List.le_antisymm (List.not_lt.1 n1) (List.not_lt.1 hn)))
      have hql : keyB l[q] < keyB t := by
        rcases Nat.lt_or_ge q (j - 1) with h | h
        · exact List.lt_trans (List.pairwise_iff_getElem.1 hr q (j - 1) (by omega) (by omega) h) hlast
        · obtain rfl : q = j - 1 := by omega
          exact hlast
      rcases List.mem_cons.1 hv with rfl | hv
      · exact hql
      · obtain ⟨p, hp, rfl⟩ := List.mem_iff_getElem.1 hv
        rw [List.length_drop] at hp
        rw [List.getElem_drop]
        exact List.lt_trans hql (hhi (j + p) (by omega) (by omega))
  · rw [mem_insT]
    conv => lhs; rw [← List.take_append_drop j l]
    simp only [List.mem_append, List.mem_cons]
    constructor
    · rintro ((h | h) | h)
      · exact .inl h
      · exact .inr (.inr h)
      · exact .inr (.inl h)
    · rintro (h | h | h)
      · exact .inl (.inl h)
      · exact .inr h
      · exact .inl (.inr h)
theorem insT_there {l : List Tm} {t : Tm} (hr : Rise l) (hz : ∀ u ∈ l, NoZero u.1.data.toList) (ht : t ∈ l) : insT l t = l :=
  rise_unique (rise_insT t hr hz (hz t ht)) hr (fun u => by rw [mem_insT]; exact ⟨fun h => h.elim id (fun e => e ▸ ht), .inl⟩)
def Clean (l : List Tm) : Prop := ∀ u ∈ l, Tiny u ∧ NoZero u.1.data.toList
theorem putTerm_loop {l : List Tm} {t : Tm} (hr : Rise l) (hc : Clean l) (ht : Tiny t ∧ NoZero t.1.data.toList) (hl : l.length ≤ 1000000000000) : ∀ j : Nat, j ≤ l.length → (∀ q (hq : q < l.length), j ≤ q → keyB t < keyB l[q]) → Ev (fun k => concordanceref08_PutTerm.l0 k (l.map toS) (j : Int) t.1 t.2) ((insT l t).map toS) := by
  have hz : ∀ u ∈ l, NoZero u.1.data.toList := fun u hu => (hc u hu).2
  intro j
  induction j with
  | zero =>
    intro hj hhi
    have e := insT_split hr hz ht.2 0 hj hhi (fun h => absurd h (by omega))
    refine Ev.step (fun k => by rw [concordanceref08_PutTerm.l0]) ?_
    refine Ev.neg (by omega) <| Ev.pos (by omega) <| Ev.pos (by omega) <| Ev.const rfl <| Ev.pos (by simp) <| Ev.const rfl <| Ev.pos (by simp) <| Ev.const rfl <| Ev.const rfl <| Ev.pos (by simp; omega) <| Ev.ret ?_
    rw [e]
    simp [toS]
  | succ j ih =>
    intro hj hhi
    have hjl : j < l.length := by omega
    have hrd := toS_rd l j hjl
    have hpj : wrap64 (((j + 1 : Nat) : Int) - 1) = (j : Int) := by rw [wrap_small _ (by omega)]; omega
    have hk1 := rkey t ht.1
    have hk2 := rkey l[j] (hc _ (List.getElem_mem hjl)).1
    refine Ev.step (fun k => by rw [concordanceref08_PutTerm.l0, hpj, hrd]) ?_
    refine Ev.pos (by omega) (Ev.const hk1 ?_)
    refine Ev.pos (by omega) (Ev.pos (by rw [List.length_map]; omega) ?_)
    refine Ev.const (show concordanceref02_Key.f (toS l[j]).f0 (toS l[j]).f1 = some (keyS l[j]) from hk2) ?_
    rw [keyS_list, keyS_list]
    by_cases hlt : keyB t < keyB l[j]
    · refine Ev.pos ((bytesLess_lt _ _).2 hlt) (ih (by omega) (fun q hq hqj => ?_))
      rcases Nat.lt_or_ge j q with h | h
      · exact hhi q hq h
      · obtain rfl : q = j := by omega
        exact hlt
    · refine Ev.neg (fun h => hlt ((bytesLess_lt _ _).1 h)) ?_
      by_cases heq : l[j] = t
      · refine Ev.pos ?_ (Ev.ret ?_)
        · show (l[j].1.toList == t.1.toList && l[j].2.toList == t.2.toList) = true
          rw [heq]; simp
        · rw [insT_there hr hz (heq ▸ List.getElem_mem hjl)]
      · have e := insT_split hr hz ht.2 (j + 1) hj hhi (fun h => ⟨hlt, heq⟩)
        refine Ev.neg ?_ <| Ev.pos (by omega) <| Ev.pos (by rw [List.length_map]; omega) <| Ev.const rfl <| Ev.pos (by simp; omega) <| Ev.const rfl <| Ev.pos (by simp; omega) <| Ev.const rfl <| Ev.const rfl <| Ev.pos (by simp; omega) <| Ev.ret ?_
        · show ¬ (l[j].1.toList == t.1.toList && l[j].2.toList == t.2.toList) = true
          rw [Bool.and_eq_true, beq_iff_eq, beq_iff_eq, bytes_ne, bytes_ne]
          exact fun h => heq (Prod.ext h.1 h.2)
        · rw [e, Int.toNat_natCast]
          simp [toS]
theorem putTerm_ev {l : List Tm} {t : Tm} (hr : Rise l) (hc : Clean l) (ht : Tiny t ∧ NoZero t.1.data.toList) (hl : l.length ≤ 1000000000000) : Ev (fun k => concordanceref08_PutTerm.f k (l.map toS) t.1 t.2) ((insT l t).map toS) := by
  unfold concordanceref08_PutTerm.f
  rw [List.length_map]
  exact putTerm_loop hr hc ht hl l.length (Nat.le_refl _) (fun q hq h => by omega)
theorem termsOf_snoc (pre : List Occ) (o : Occ) : termsOf (pre ++ [o]) = insT (termsOf pre) (tmOf o) := by unfold termsOf; rw [List.map_append, List.foldl_append]; rfl
theorem insT_len (l : List Tm) (t : Tm) : (insT l t).length ≤ l.length + 1 := by
  induction l with
  | nil => simp [insT]
  | cons a l ih =>
    unfold insT
    split
    · simp
    · split
      · simp
      · simp; omega
theorem termsOf_len (pre : List Occ) : (termsOf pre).length ≤ pre.length := by
  have h : ∀ (l acc : List Tm), (l.foldl insT acc).length ≤ acc.length + l.length := by
    intro l
    induction l with
    | nil => intro acc; simp
    | cons u l ih => intro acc; have := ih (insT acc u); have := insT_len acc u; rw [List.foldl_cons, List.length_cons]; omega
  have := h (pre.map tmOf) []
  rw [List.length_map] at this
  unfold termsOf
  simpa using this
theorem clean_terms {l : List Fd} (h1 : docOk l) (h2 : namesOk l) {pre : List Occ} (hp : ∀ o ∈ pre, o ∈ occ l) : Clean (termsOf pre) ∧ Rise (termsOf pre) := by
  refine ⟨fun u hu => ?_, rise_termsOf pre (fun o ho => (occ_tiny h1 h2 (hp o ho)).2)⟩
  obtain ⟨o, ho, rfl⟩ := (mem_termsOf pre u).1 hu
  exact occ_tiny h1 h2 (hp o ho)
theorem terms_loop (id : Int) (l : List Fd) (h1 : docOk l) (h2 : namesOk l) (hN : Nice l) (d : Nat) : ∀ i : Nat, i + d = l.length → Ev (fun k => concordanceref08_Terms.l0 k ((termsOf (occ (l.take i))).map toS) (i : Int) id l) ((termsOf (occ l)).map toS) := by
  have hll := h1.1
  have hol := h1.occ
  induction d with
  | zero =>
    intro i hi
    refine Ev.step (fun k => by rw [concordanceref08_Terms.l0]) (Ev.neg (by omega) (Ev.ret ?_))
    rw [List.take_of_length_le (by omega)]
  | succ d ih =>
    intro i hi
    have hil : i < l.length := by omega
    have hrd := rdF_nat l i hil
    have hg := ih (i + 1) (by omega)
    rw [occ_take l i hil] at hg
    have hwl := wordsT_len l[i].f1
    have hsz := h1.2 _ (List.getElem_mem hil)
    have hsub : ∀ o ∈ occ (l.take i) ++ occF l[i].f0 (wordsT l[i].f1), o ∈ occ l := by
      intro o ho
      rw [← occ_take l i hil] at ho
      unfold occ at ho ⊢
      obtain ⟨f, hf, hf2⟩ := List.mem_flatMap.1 ho
      exact List.mem_flatMap.2 ⟨f, List.mem_of_mem_take hf, hf2⟩
    have hlen : (occ (l.take i) ++ occF l[i].f0 (wordsT l[i].f1)).length ≤ 1000001000 := by
      rw [← occ_take l i hil]
      exact Nat.le_trans (occ_take_le l (i + 1)) hol
    refine Ev.step (fun k => by rw [concordanceref08_Terms.l0, hrd]) (Ev.pos (by omega) (Ev.pos (by omega) (Ev.bind (words8_ev id l l[i].f0 h1) ?_)))
    rw [words8_own hN i hil]
    obtain ⟨W, hW⟩ : ∃ W, W = wordsT l[i].f1 := ⟨_, rfl⟩
    rw [← hW] at hg hsub hlen hwl ⊢
    have inner : ∀ (c j : Nat), j + c = W.length → Ev (fun k => concordanceref08_Terms.l1 k ((termsOf (occ (l.take i) ++ (occF l[i].f0 W).take j)).map toS) (i : Int) W (j : Int) id l) ((termsOf (occ l)).map toS) := by
      intro c
      induction c with
      | zero =>
        intro j hj
        rw [show (occF l[i].f0 W).take j = occF l[i].f0 W from List.take_of_length_le (by rw [occF_len]; omega)]
        exact Ev.step (fun k => by rw [concordanceref08_Terms.l1, wrap_nat i (by omega)]) (Ev.neg (by omega) hg)
      | succ c ihc =>
        intro j hj
        have hjl : j < W.length := by omega
        have hg2 := ihc (j + 1) (by omega)
        have hpre : ∀ o ∈ occ (l.take i) ++ (occF l[i].f0 W).take j, o ∈ occ l := by
          intro o ho
          refine hsub o ?_
          rcases List.mem_append.1 ho with ho | ho
          · exact List.mem_append_left _ ho
          · exact List.mem_append_right _ (List.mem_of_mem_take ho)
        obtain ⟨c1, c2⟩ := clean_terms h1 h2 hpre
        have hto : (l[i].f0, W[j], j) ∈ occ l := by
          refine hsub _ (List.mem_append_right _ ?_)
          rw [← occF_get l[i].f0 W j hjl]
          exact List.getElem_mem _
        have hcl := occ_tiny h1 h2 hto
        have hln := termsOf_len (occ (l.take i) ++ (occF l[i].f0 W).take j)
        have hln2 : (occ (l.take i) ++ (occF l[i].f0 W).take j).length ≤ (occ (l.take i) ++ occF l[i].f0 W).length := by
          rw [List.length_append, List.length_append, List.length_take]; omega
        rw [occF_take l[i].f0 W j hjl, ← List.append_assoc, termsOf_snoc] at hg2
        exact Ev.step (fun k => by rw [concordanceref08_Terms.l1, hrd, rdS_lt W j hjl, wrap_nat j (by omega)]) <| Ev.pos (by omega) <| Ev.pos (by omega) <| Ev.pos (by omega) <| Ev.pos (by omega) <| Ev.bind (putTerm_ev (t := (l[i].f0, W[j])) c2 c1 hcl (by omega)) hg2
    have := inner W.length 0 (by omega)
    rw [List.take_zero, List.append_nil] at this
    exact this
theorem terms_ev (id : Int) (l : List Fd) (h1 : docOk l) (h2 : namesOk l) (hN : Nice l) : Ev (fun k => concordanceref08_Terms.f k id l) ((termsOf (occ l)).map toS) := by
  unfold concordanceref08_Terms.f
  exact terms_loop id l h1 h2 hN l.length 0 (by omega)

/-! ### Weight -/
theorem weight_loop (id : Int) (l : List Fd) (h1 : docOk l) (hN : Nice l) (d : Nat) : ∀ i : Nat, i + d = l.length → Ev (fun k => concordanceref08_Weight.l0 k ((occ (l.take i)).length : Int) (i : Int) id l) ((occ l).length : Int) := by
  have hll := h1.1
  have hol := h1.occ
  induction d with
  | zero =>
    intro i hi
    refine Ev.step (fun k => by rw [concordanceref08_Weight.l0]) (Ev.neg (by omega) (Ev.ret ?_))
    rw [List.take_of_length_le (by omega)]
  | succ d ih =>
    intro i hi
    have hil : i < l.length := by omega
    have hrd := rdF_nat l i hil
    have hg := ih (i + 1) (by omega)
    have hle := occ_take_le l (i + 1)
    rw [occ_take l i hil, List.length_append, occF_len] at hg hle
    refine Ev.step (fun k => by rw [concordanceref08_Weight.l0, hrd]) (Ev.pos (by omega) (Ev.pos (by omega) (Ev.bind (words8_ev id l l[i].f0 h1) ?_)))
    rw [words8_own hN i hil, wrap_nat i (by omega), wrap_small _ (by omega)]
    have e : (((occ (l.take i)).length + (wordsT l[i].f1).length : Nat) : Int) = ((occ (l.take i)).length : Int) + ((wordsT l[i].f1).length : Int) := by push_cast; rfl
    rw [e] at hg
    exact hg
theorem weight_ev (id : Int) (l : List Fd) (h1 : docOk l) (hN : Nice l) : Ev (fun k => concordanceref08_Weight.f k id l) ((occ l).length : Int) := by
  unfold concordanceref08_Weight.f
  exact weight_loop id l h1 hN l.length 0 (by omega)
end Go.Proofs.YteidebllianiiaaGreatDoor

/- A map from texts to rows of postings, in memory: looked up, stored into; one more behind a row. Condition: on sizes alone. -/
set_option linter.unusedVariables false
set_option linter.unusedSimpArgs false
namespace Go.Proofs.YteidebllianiiaaGreatDoor
open Go.RowKit Go.MapKept Go.ChangeMaps Go.Proofs.YteidebllianiiaaGreatDoor.PAll Go.Proofs.YteidebllianiiaaGreatDoorW.PrintWords Go.Proofs.YteidebllianiiaaGreatDoorW.PrintLast Go.Proofs.YteidebllianiiaaGreatDoorW.PrintMore
open Go.Maps (Keyed)

abbrev Pst := S41
abbrev Ent := S33

section
variable {P : Program} {w : World} {t k e : TypeId} {b : Nat} {es : Array MapEntry} {clock : Nat} {key : Value} {kl : Lit}
theorem update_raw (K : Keyed P k) (ht : P.underlying t = some (.map k e)) (hb : w.heap[b]? = some (.map es clock)) (hst : Stamped es clock) (hks : ∀ x ∈ es.toList, ∃ l, keyOf P k x.key = some l) (hkey : keyOf P k key = some kl) (val : Value) :
    ∃ (es' : Array MapEntry) (clock' : Nat), (Instr.mapUpdate t (.map (some b)) key val).run P w = .ok () (setBlock w b (.map es' clock')) ∧ Stored es key val es' clock' := by
  obtain ⟨s1, s2, s3⟩ := hst
  rcases K.find w hkey es.toList hks with ⟨h1, h2⟩ | ⟨j, e0, h1, h2, h3⟩
  · refine ⟨es.push ⟨key, val, clock⟩, clock + 1, ?_, ⟨?_, ?_, ?_⟩, by simp, ?_, ?_, ?_⟩
    · simp [Instr.mapUpdate, run_underlying ht, MapKept.run_getObj_map hb, K.check w false hkey, h1, MapKept.run_setObj_map _ hb, Result.andThen, setBlock]
    · intro x hx
      rw [Array.toList_push, List.mem_append, List.mem_singleton] at hx
      rcases hx with hx | rfl
      · have := s1 x hx; omega
      · exact Nat.lt_succ_self _
    · rw [Array.toList_push, List.map_append, List.map_cons, List.map_nil]
      refine List.nodup_append.2 ⟨s2, by simp, fun a ha c hc e1 => ?_⟩
      simp only [List.mem_singleton] at hc
      obtain ⟨x, hx, rfl⟩ := List.mem_map.1 ha
      have := s1 x hx
      omega
    · rw [Array.toList_push, List.map_append, List.map_cons, List.map_nil]
      refine List.nodup_append.2 ⟨s3, by simp, fun a ha c hc e1 => ?_⟩
      simp only [List.mem_singleton] at hc
      obtain ⟨x, hx, rfl⟩ := List.mem_map.1 ha
      exact h2 x hx (e1.trans hc)
    · intro x hx
      rw [Array.toList_push, List.mem_append, List.mem_singleton] at hx
      rcases hx with hx | rfl
      · exact .inl ⟨hx, h2 x hx⟩
      · exact .inr ⟨rfl, rfl⟩
    · intro x hx _
      rw [Array.toList_push]; exact List.mem_append_left _ hx
    · exact ⟨⟨key, val, clock⟩, by rw [Array.toList_push]; simp, rfl, rfl⟩
  · have hj : es[j]? = some e0 := by simpa using h2
    have hsame : es.modify j (fun e => { e with key := key, val := val }) = es.modify j (fun e => { e with val := val }) := by
      apply Array.ext'
      rw [Array.toList_modify, Array.toList_modify, modify_eq_set _ _ _ _ h2, modify_eq_set _ _ _ _ h2]
      have : ({ e0 with key := key, val := val } : MapEntry) = { e0 with val := val } := by rw [← h3]
      rw [this]
    refine ⟨es.modify j (fun e' => { e' with val := val }), clock, ?_, ?_⟩
    · rw [← hsame]
      simp [Instr.mapUpdate, run_underlying ht, MapKept.run_getObj_map hb, K.check w false hkey, h1, hj, h3, K.stays w hkey, MapKept.run_setObj_map _ hb, Result.andThen, setBlock]
    · have hm : ∀ {x : MapEntry}, x ∈ (es.modify j (fun e' => { e' with val := val })).toList ↔ x = { e0 with val := val } ∨ ∃ i, i ≠ j ∧ es.toList[i]? = some x := by
        intro x
        rw [Array.toList_modify]
        exact mem_modify _ h2
      have huniq : ∀ {i : Nat} {x : MapEntry}, es.toList[i]? = some x → x.key = key → i = j := by
        intro i x hi hx
        have h5 := List.pairwise_iff_getElem.1 s3
        obtain ⟨li, ei⟩ := List.getElem?_eq_some_iff.1 hi
        obtain ⟨lj, ej⟩ := List.getElem?_eq_some_iff.1 h2
        rcases Nat.lt_trichotomy i j with h | h | h
        · exact (h5 i j (by simpa using li) (by simpa using lj) h (by simp [ei, ej, hx, h3])).elim
        · exact h
        · exact (h5 j i (by simpa using lj) (by simpa using li) h (by simp [ei, ej, hx, h3])).elim
      refine ⟨⟨?_, ?_, ?_⟩, by simp, ?_, ?_, ?_⟩
      · intro x hx
        rcases hm.1 hx with rfl | ⟨i, _, hi⟩
        · exact s1 e0 (List.mem_of_getElem? h2)
        · exact s1 x (List.mem_of_getElem? hi)
      · rw [Array.toList_modify, map_modify_born]; exact s2
      · rw [Array.toList_modify, map_modify_key]; exact s3
      · intro x hx
        rcases hm.1 hx with rfl | ⟨i, hi, hx2⟩
        · exact .inr ⟨h3, rfl⟩
        · exact .inl ⟨List.mem_of_getElem? hx2, fun e => hi (huniq hx2 e)⟩
      · intro x hx hne
        obtain ⟨i, hi⟩ := List.mem_iff_getElem?.1 hx
        exact hm.2 (.inr ⟨i, fun e => by subst e; rw [h2] at hi; cases hi; exact hne h3, hi⟩)
      · exact ⟨_, hm.2 (.inl rfl), h3, rfl⟩
end

/-- append(v, one), told as a run. -/
theorem append_one {α : Type} (d : Kd α) {P : Program} (W : World) (base : Nat) (t ty e : TypeId) (i0 : TypeInfo) (z : Value) (bytes : Nat)
    (ht : P.underlying t = some (.slice e)) (hi : P.info? e = some i0) (hz0 : i0.zero = some z) (hz1 : i0.size = d.sz) (hz2 : i0.bytes = bytes) (hz : z.cells.size = d.sz) (hs0 : 0 < d.sz) (hb0 : 0 < bytes)
    {v : Value} {xs : List α} {x : α} {cs : List Value} {ad : Addr} {ok okp : Nat → Prop} (HO : d.R e W base ok v xs) (hcs : ∀ j u, cs[j]? = some u → W.cell? (ad.add j) = some u) (hM : d.M W base okp x cs)
    (hokp : ∀ k, okp k → ok k ∧ some k ≠ v.ownBlock) (hfresh : ∀ k, W.heap.size ≤ k → ok k) (hbase : base ≤ W.heap.size) (hl : (xs.length + 1) * bytes ≤ 140737488355328) :
    ∃ v1 w1, (Builtin.append_ #[t, t] ty #[v, .slice (some ad) 1 1]).run P W = .ok v1 w1 ∧ d.R e w1 base ok v1 (xs ++ [x]) ∧ W.grownBy w1 v.ownBlock ∧ (v1.ownBlock = v.ownBlock ∨ v1.ownBlock = some W.heap.size) := by
  have hlen : xs.length + 1 ≤ 140737488355328 := Nat.le_trans (Nat.le_mul_of_pos_right _ hb0) hl
  obtain ⟨hok, inner, hown, hr⟩ := HO
  have hcl := d.K_len (d.K_of_M hM)
  obtain ⟨v1, w1, hrun, h2, hg, _, hat⟩ := run_append_own_at (P := P) W base t ty e i0 z d.sz bytes ht hi hz0 hz1 hz2 hz hs0 v xs.length inner hown ad 1 1 cs (by rw [hcl, Nat.one_mul]) hcs (d.K_one (d.K_of_M hM)) (by simp only [maxLen]; omega) hl hbase
  have hne : ∀ k, some k ≠ v.ownBlock → k < W.heap.size → some k ≠ v1.ownBlock := by
    intro k hk hlt
    rcases hat with hat | hb
    · rw [hat]; exact hk
    · rw [hb]
      intro he
      injection he with he
      omega
  have step : ∀ {q : α} {c : List Value} {o : Nat → Prop}, d.M W base o q c → (∀ k, o k → ok k ∧ some k ≠ v.ownBlock) → d.M w1 base (fun k => ok k ∧ some k ≠ v1.ownBlock) q c := by
    intro q c o hq ho
    have h1 := d.M_move (w1 := w1) (fun k hk => hg.block k hk.2.2.1 (ho k hk.1).2) (d.M_bound hq)
    exact d.M_mono (fun k hk => ⟨(ho k hk.1).1, hne k (ho k hk.1).2 hk.2.2.1⟩) h1
  refine ⟨v1, w1, hrun, ⟨fun k hk => ?_, inner ++ cs, by rw [List.length_append]; exact h2, (hr.imp_ (fun _ _ hq => step hq (fun _ hk => hk))).snoc (step hM hokp) hcl⟩, hg, hat⟩
  rcases hat with hat | hb
  · exact hok k (hat ▸ hk)
  · rw [hb] at hk
    cases hk
    exact hfresh _ (Nat.le_refl _)

theorem keyedS : Keyed Tryz.prog 9 := Go.Maps.string_keyed Tryz.underlying9
theorem keyOfS (s : ByteArray) (h : s.size ≤ 1000000000) : keyOf Tryz.prog 9 (.string s) = some (.string s.data.toList) := by
  have : s.size ≤ maxLen := by unfold maxLen; omega
  simp [keyOf, Tryz.underlying9, mapKey, this]
theorem zeroPst (u : World) : (zeroValue 36).run Tryz.prog u = .ok (.slice none 0 0) u := Tryz.zeroValue36 u

/-- Kept blocks K; the map's block m; f: what stands at each text. -/
structure MapsF (K : Nat → Prop) (W : World) (m N : Nat) (f : ByteArray → List Pst) (es : Array MapEntry) (clock : Nat) : Prop where
  map : W.heap[m]? = some (.map es clock)
  km : ¬ K m
  stamped : Stamped es clock
  size : es.size ≤ N
  who : ∀ x ∈ es.toList, ∃ s : ByteArray, x.key = .string s ∧ s.size ≤ 1000000000 ∧ f s ≠ [] ∧ Kd.R k41 41 W 0 (fun k => ¬ K k) x.val (f s)
  all : ∀ s, f s ≠ [] → ∃ x ∈ es.toList, x.key = .string s
  apart : ∀ x ∈ es.toList, ∀ y ∈ es.toList, x.key ≠ y.key → ∀ k, x.val.ownBlock = some k → y.val.ownBlock ≠ some k
def MapsAt (K : Nat → Prop) (m N : Nat) (f : ByteArray → List Pst) (W : World) : Prop := ∃ es clock, MapsF K W m N f es clock

theorem kd_E41 : k41.E = [3] := rfl
/-- A block that is no posting's row and no row of places is none of a row of postings. -/
theorem posts_far {W : World} {ok : Nat → Prop} {v : Value} {l : List Pst} {base g : Nat} {o : Obj} (h : Kd.R k41 41 W base ok v l) (hg : W.heap[g]? = some o) (ho : ∀ cells t, o = .cells cells t (0, 0) → t ≠ 41 ∧ t ≠ 3) :
    Kd.R k41 41 W base (fun k => ok k ∧ k ≠ g) v l :=
  Kd.R_mono (Kd.R_bound h) (fun k hk => ⟨hk.1, fun e => by
    obtain ⟨_, _, _, q, hq, cells, hc⟩ := hk
    subst e
    rw [hg] at hc
    obtain ⟨h1, h2⟩ := ho cells q (Option.some.inj hc)
    rw [kd_E41] at hq
    simp only [List.mem_cons, List.mem_nil_iff, or_false] at hq
    exact hq.elim h1 h2⟩)
/-- Two rows of postings, apart. -/
theorem posts_apart {W : World} {ok : Nat → Prop} {v u : Value} {l : List Pst} {base base' n : Nat} {cells : List Value} (h : Kd.R k41 41 W base ok v l) (hu : W.ownsRow base' 41 2 u n cells) (hne : ∀ k, v.ownBlock = some k → u.ownBlock ≠ some k) :
    Kd.R k41 41 W base (fun k => ok k ∧ some k ≠ u.ownBlock) v l := by
  obtain ⟨h0, inner, ho, hr⟩ := h
  refine ⟨fun k hk => ⟨h0 k hk, fun e => hne k hk e.symm⟩, inner, ho, hr.imp_ (fun x c hp => k41.M_mono (fun k hk => ⟨⟨hk.1.1, fun e => ?_⟩, hk.1.2⟩) (k41.M_bound hp))⟩
  obtain ⟨_, _, _, q, hq, cells, hc⟩ := hk
  obtain ⟨c2, q2⟩ := own_typed hu k e.symm
  rw [hc] at q2
  rw [kd_E41] at hq
  simp only [List.mem_cons, List.mem_nil_iff, or_false] at hq
  subst hq
  injection q2 with q2
  injection q2 with _ q2 _
  revert q2; decide
/-- What a step upon the map may turn: its block, and rows of postings that nobody keeps. -/
structure Only (K : Nat → Prop) (m : Nat) (W W' : World) : Prop where
  mv : Moves (fun k => ¬ K k) W W'
  ty : ∀ k, k < W.heap.size → W'.heap[k]? = W.heap[k]? ∨ k = m ∨ ∃ cells, W.heap[k]? = some (.cells cells 41 (0, 0))
theorem Only.trans' {K : Nat → Prop} {m : Nat} {a b c : World} (h : Only K m a b) (q : Only K m b c) : Only K m a c := by
  refine ⟨h.mv.trans' q.mv, fun k hk => ?_⟩
  rcases h.ty k hk with h1 | h1
  · rcases q.ty k (Nat.lt_of_lt_of_le hk h.mv.size) with h2 | h2 | ⟨cells, h2⟩
    · exact .inl (h2.trans h1)
    · exact .inr (.inl h2)
    · exact .inr (.inr ⟨cells, by rw [← h1]; exact h2⟩)
  · exact .inr h1
theorem Only.refl (K : Nat → Prop) (m : Nat) (W : World) : Only K m W W := ⟨Moves.refl _ _, fun _ _ => .inl rfl⟩
theorem Only.of_below {K : Nat → Prop} {m : Nat} {W W' : World} (h : Below W.heap.size W W') : Only K m W W' := ⟨Moves.of_below h, fun k hk => .inl (h.block k hk)⟩
section
variable {K K' : Nat → Prop} {W W' : World} {m N : Nat} {f : ByteArray → List Pst}
/-- Whatever leaves the buffer's own blocks alone. -/
theorem MapsAt.step (h : MapsAt K m N f W) (hm : ∀ k, ¬ K k → k < W.heap.size → W'.heap[k]? = W.heap[k]?) : MapsAt K m N f W' := by
  obtain ⟨es, clock, h⟩ := h
  exact ⟨es, clock, (hm m h.km (Array.getElem?_eq_some_iff.1 h.map).1).trans h.map, h.km, h.stamped, h.size, fun x hx => by
    obtain ⟨s, a1, a2, a3, a4⟩ := h.who x hx
    exact ⟨s, a1, a2, a3, Kd.R_step a4 hm⟩, h.all, h.apart⟩
theorem MapsAt.less (h : MapsAt K m N f W) (hk : ∀ k, K' k → K k) : MapsAt K' m N f W := by
  obtain ⟨es, clock, h⟩ := h
  exact ⟨es, clock, h.map, fun q => h.km (hk _ q), h.stamped, h.size, fun x hx => by
    obtain ⟨s, a1, a2, a3, a4⟩ := h.who x hx
    exact ⟨s, a1, a2, a3, Kd.R_mono a4 (fun k q e => q (hk _ e))⟩, h.all, h.apart⟩
theorem MapsAt.also (h : MapsAt K m N f W) (hb : Below W.heap.size W W') : MapsAt (Also K W W') m N f W' := by
  obtain ⟨es, clock, h⟩ := h
  have hlt := (Array.getElem?_eq_some_iff.1 h.map).1
  exact ⟨es, clock, (hb.block m hlt).trans h.map, fun q => q.elim h.km (fun q => by omega), h.stamped, h.size, fun x hx => by
    obtain ⟨s, a1, a2, a3, a4⟩ := h.who x hx
    exact ⟨s, a1, a2, a3, Kd.R_mono (Kd.R_below (Kd.R_bound a4) hb) (fun k q e => e.elim q.1 (fun e => by have := q.2.2.1; omega))⟩, h.all, h.apart⟩

theorem MapsAt.same (h : MapsAt K m N f W) {g : ByteArray → List Pst} (hg : ∀ s, g s = f s) : MapsAt K m N g W := by
  obtain rfl : g = f := funext hg
  exact h
end
/-- What the look-up tells. -/
theorem maps_look {K : Nat → Prop} {W : World} {m N : Nat} {f : ByteArray → List Pst} {es : Array MapEntry} {clock : Nat} (h : MapsF K W m N f es clock) (s : ByteArray) (hs : s.size ≤ 1000000000) :
    ∃ v0, (∀ W' : World, W'.heap[m]? = some (.map es clock) → (Instr.lookup 61 (.map (some m)) (.string s) false).run Tryz.prog W' = .ok v0 W') ∧
      Kd.R k41 41 W 0 (fun k => ¬ K k) v0 (f s) ∧ (∀ y ∈ es.toList, y.key ≠ .string s → ∀ k, y.val.ownBlock = some k → v0.ownBlock ≠ some k) := by
  have hks : ∀ y ∈ es.toList, ∃ l, keyOf Tryz.prog 9 y.key = some l := fun y hy => by
    obtain ⟨t, e, q, _⟩ := h.who y hy
    rw [e]; exact ⟨_, keyOfS t q⟩
  rcases keyedS.find W (keyOfS s hs) es.toList hks with ⟨h1, h2⟩ | ⟨j, e0, h1, h2, h3⟩
  · refine ⟨.slice none 0 0, fun W' hW' => ?_, ?_, fun y hy _ k _ hk => by simp [Value.ownBlock] at hk⟩
    · rcases look_raw keyedS Tryz.underlying61 zeroPst hW' hks (keyOfS s hs) with ⟨r, _⟩ | ⟨e1, he1, hk1, _⟩
      · exact r
      · exact (h2 e1 he1 hk1).elim
    · have hnil : f s = [] := Classical.byContradiction fun hne => by
        obtain ⟨y, hy, e⟩ := h.all _ hne
        exact h2 y hy e
      rw [hnil]
      exact Kd.R_nil _ _ _ _ _
  · have he0 := List.mem_of_getElem? h2
    obtain ⟨t, e, _, _, hR⟩ := h.who e0 he0
    rw [h3] at e
    obtain rfl : s = t := Value.string.inj e
    refine ⟨e0.val, fun W' hW' => ?_, hR, fun y hy hne k hk => h.apart y hy e0 he0 (by rw [h3]; exact hne) k hk⟩
    rcases look_raw keyedS Tryz.underlying61 zeroPst hW' hks (keyOfS s hs) with ⟨_, r⟩ | ⟨e1, he1, hk1, r⟩
    · exact (r e0 he0 h3).elim
    · have h5 := List.pairwise_map.1 h.stamped.2.2
      have : e1 = e0 := by
        refine Classical.byContradiction fun hne => ?_
        have h6 := List.pairwise_iff_getElem.1 h5
        obtain ⟨i, hi, ei⟩ := List.mem_iff_getElem.1 he1
        obtain ⟨q, hq, eq⟩ := List.mem_iff_getElem.1 he0
        rcases Nat.lt_trichotomy i q with hlt | rfl | hlt
        · exact h6 i q hi hq hlt (by rw [ei, eq, hk1, h3])
        · exact hne (ei.symm.trans eq)
        · exact h6 q i hq hi hlt (by rw [ei, eq, hk1, h3])
      rw [this] at r
      exact r
end Go.Proofs.YteidebllianiiaaGreatDoor

/- The buffer, plain: where a text stands. No condition. -/
set_option linter.unusedVariables false
set_option linter.unusedSimpArgs false
namespace Go.Proofs.YteidebllianiiaaGreatDoor
open Go.RowKit Go.Proofs.YteidebllianiiaaGreatDoor.PAll Go.Proofs.YteidebllianiiaaGreatDoorW.PrintWords Go.Proofs.YteidebllianiiaaGreatDoorW.PrintLast Go.Proofs.YteidebllianiiaaGreatDoorW.PrintMore

/-- Where document n has a key: its terms whose key it is. -/
def docPosts (n : Nat) (l : List S50) (T : List Tm) (s : ByteArray) : List Pst := (T.filter (fun t => decide (keyS t = s))).map (fun t => ⟨(n : Int), placesIn (occ l) t⟩)
def posts (L : List Ent) (s : ByteArray) : List Pst := L.zipIdx.flatMap (fun x => docPosts x.2 x.1.f0.f1 (termsOf (occ x.1.f0.f1)) s)
def weigh (L : List Ent) : Nat := (L.map (fun e => (occ e.f0.f1).length)).sum

theorem posts_snoc (L : List Ent) (e : Ent) (s : ByteArray) : posts (L ++ [e]) s = posts L s ++ docPosts L.length e.f0.f1 (termsOf (occ e.f0.f1)) s := by
  unfold posts
  rw [List.zipIdx_append, List.flatMap_append]
  simp
theorem weigh_snoc (L : List Ent) (e : Ent) : weigh (L ++ [e]) = weigh L + (occ e.f0.f1).length := by
  unfold weigh
  simp
theorem docPosts_take (n : Nat) (l : List S50) (T : List Tm) (j : Nat) (h : j < T.length) (s : ByteArray) :
    docPosts n l (T.take (j + 1)) s = docPosts n l (T.take j) s ++ (if s = keyS T[j] then [⟨(n : Int), placesIn (occ l) T[j]⟩] else []) := by
  unfold docPosts
  rw [List.take_succ_eq_append_getElem h, List.filter_append, List.map_append]
  by_cases e : keyS T[j] = s
  · rw [if_pos e.symm]; simp [e]
  · rw [if_neg (fun q => e q.symm)]; simp [e]
theorem docPosts_len (n : Nat) (l : List S50) (T : List Tm) (s : ByteArray) : (docPosts n l T s).length ≤ T.length := by
  unfold docPosts
  rw [List.length_map]; exact List.length_filter_le _ _
theorem insT_len' (l : List Tm) (t : Tm) : (insT l t).length ≤ l.length + 1 := by
  induction l with
  | nil => unfold insT; simp
  | cons x l ih =>
    unfold insT
    split
    · simp
    · split
      · simp
      · simp only [List.length_cons]; omega
theorem termsOf_len' (pre : List Occ) : (termsOf pre).length ≤ pre.length := by
  unfold termsOf
  have : ∀ (T : List Tm) (acc : List Tm), (T.foldl insT acc).length ≤ acc.length + T.length := by
    intro T
    induction T with
    | nil => intro acc; simp
    | cons t T ih =>
      intro acc
      have := ih (insT acc t)
      have := insT_len' acc t
      simp only [List.foldl_cons, List.length_cons]
      omega
  have h := this (pre.map tmOf) []
  simpa using h
/-- A document that may be: few words, names without byte 0. -/
def okE (e : Ent) : Prop := docOk e.f0.f1 ∧ namesOk e.f0.f1 ∧ (occ e.f0.f1).length ≤ 500
def okL (L : List Ent) : Prop := L.length ≤ 1000 ∧ ∀ e ∈ L, okE e
theorem posts_len {L : List Ent} (h : ∀ e ∈ L, okE e) (s : ByteArray) : (posts L s).length ≤ 500 * L.length := by
  have : ∀ (l : List Ent) (n : Nat), (∀ e ∈ l, okE e) → ((l.zipIdx n).flatMap (fun x => docPosts x.2 x.1.f0.f1 (termsOf (occ x.1.f0.f1)) s)).length ≤ 500 * l.length := by
    intro l
    induction l with
    | nil => intro n _; simp
    | cons e l ih =>
      intro n hl
      have h1 := ih (n + 1) (fun q hq => hl q (List.mem_cons_of_mem _ hq))
      have h2 := docPosts_len n e.f0.f1 (termsOf (occ e.f0.f1)) s
      have h3 := termsOf_len' (occ e.f0.f1)
      have h4 := (hl e List.mem_cons_self).2.2
      simp only [List.zipIdx_cons, List.flatMap_cons, List.length_append, List.length_cons]
      omega
  exact this L 0 h
end Go.Proofs.YteidebllianiiaaGreatDoor

/- The document's answers, chapter 9, plain: Same, Words, Good, few, Add. Condition: few bytes. -/
set_option linter.unusedVariables false
set_option linter.unusedSimpArgs false
namespace Go.Proofs.YteidebllianiiaaGreatDoor
open Go.RowKit Go.Proofs.YteidebllianiiaaGreatDoor.PAll Go.Proofs.YteidebllianiiaaGreatDoorW.PrintWords Go.Proofs.YteidebllianiiaaGreatDoorW.PrintLast Go.Proofs.YteidebllianiiaaGreatDoorW.PrintMore

instance fdDec : DecidableEq S50 := fun a b => if h : a.f0 = b.f0 ∧ a.f1 = b.f1 then isTrue (by obtain ⟨a0, a1⟩ := a; obtain ⟨b0, b1⟩ := b; obtain ⟨rfl, rfl⟩ := h; rfl) else isFalse (fun e => h ⟨congrArg _ e, congrArg _ e⟩)
theorem drop_step (a b : List Fd) (i : Nat) (ha : i < a.length) (hb : i < b.length) : (a.drop i = b.drop i) ↔ (a[i] = b[i] ∧ a.drop (i + 1) = b.drop (i + 1)) := by
  rw [List.drop_eq_getElem_cons ha, List.drop_eq_getElem_cons hb, List.cons.injEq]
theorem fd_ne (a b : Fd) : ((!((a.f0).toList == (b.f0).toList)) || (!((a.f1).toList == (b.f1).toList))) = true ↔ a ≠ b := by
  obtain ⟨a0, a1⟩ := a
  obtain ⟨b0, b1⟩ := b
  simp only [Bool.or_eq_true, Bool.not_eq_true', beq_eq_false_iff_ne, ne_eq, bytes_ne, S50.mk.injEq]
  exact ⟨fun h q => h.elim (fun h => h q.1) (fun h => h q.2), fun h => Classical.byCases (fun e : a0 = b0 => .inr (fun e2 => h ⟨e, e2⟩)) .inl⟩
theorem sameR_loop (x y : Int) (a b : List Fd) (hl : a.length = b.length) (hn : a.length ≤ 1000000) (d : Nat) : ∀ i : Nat, i + d = a.length → Ev (fun k => concordanceref08_Same.l0 k (i : Int) x a y b) (decide (a.drop i = b.drop i)) := by
  induction d with
  | zero =>
    intro i hi
    refine Ev.step (fun k => by rw [concordanceref08_Same.l0]) ?_
    refine Ev.neg (by omega) (Ev.ret ?_)
    rw [List.drop_eq_nil_of_le (by omega), List.drop_eq_nil_of_le (by omega)]; rfl
  | succ d ih =>
    intro i hi
    have ha : i < a.length := by omega
    have hb : i < b.length := by omega
    refine Ev.step (fun k => by rw [concordanceref08_Same.l0, rdF_nat a i ha, rdF_nat b i hb, wrap_nat i (by omega)]) ?_
    refine Ev.pos (by omega) <| Ev.pos (by omega) <| Ev.pos (by omega) ?_
    by_cases he : a[i] = b[i]
    · refine Ev.neg (fun h => (fd_ne _ _).1 h he) ?_
      rw [show decide (a.drop i = b.drop i) = decide (a.drop (i + 1) = b.drop (i + 1)) by rw [decide_eq_decide, drop_step a b i ha hb]; exact ⟨fun h => h.2, fun h => ⟨he, h⟩⟩]
      exact ih (i + 1) (by omega)
    · refine Ev.pos ((fd_ne _ _).2 he) (Ev.ret ?_)
      rw [decide_eq_false (fun h => he ((drop_step a b i ha hb).1 h).1)]
theorem same_r (x y : Int) (a b : List Fd) (hn : a.length ≤ 1000000) : Ev (fun k => concordanceref08_Same.f k x a y b) (decide (x = y ∧ a = b)) := by
  unfold concordanceref08_Same.f
  by_cases hx : x = y
  · refine Ev.pos hx ?_
    refine Ev.step (fun k => by rw [concordanceref08_Same.j0]) ?_
    by_cases hl : a.length = b.length
    · refine Ev.neg (by rw [hl]; simp) ?_
      have h := sameR_loop x y a b hl hn a.length 0 (by omega)
      rw [show decide (x = y ∧ a = b) = decide (a.drop 0 = b.drop 0) by rw [decide_eq_decide]; exact ⟨fun h => h.2, fun h => ⟨hx, h⟩⟩]
      exact h
    · refine Ev.pos (by simp; omega) (Ev.ret (decide_eq_false (fun h => hl (congrArg _ h.2))).symm)
  · refine Ev.neg hx ?_
    refine Ev.step (fun k => by rw [concordanceref08_Same.j0]) ?_
    exact Ev.pos rfl (Ev.ret (decide_eq_false (fun h => hx h.1)).symm)

/-! ### what may be -/
theorem mayD_occ : ∀ (l seen : List Fd) (n : Nat), mayD seen l n = 0 → n + (occ l).length ≤ 500 ∧ ∀ f ∈ l, nameB f.f0 = true := by
  intro l
  induction l with
  | nil =>
    intro seen n h
    rw [mayD_nil] at h
    split at h
    · cases h
    · simp [occ]; omega
  | cons f l ih =>
    intro seen n h
    rw [mayD_cons] at h
    split at h
    · cases h
    · rename_i h1
      split at h
      · cases h
      · split at h
        · obtain ⟨h2, h3⟩ := ih _ _ h
          have e : (occ (f :: l)).length = (wordsT f.f1).length + (occ l).length := by
            unfold occ
            rw [List.flatMap_cons, List.length_append, occF_len]
          refine ⟨by omega, fun g hg => ?_⟩
          rcases List.mem_cons.1 hg with rfl | hg
          · cases hq : nameB g.f0 with
            | true => rfl
            | false => exact (h1 hq).elim
          · exact h3 g hg
        · rename_i h2
          exact (h2 h).elim
theorem mayN_occ {l : List Fd} (h : mayN l = 0) : l.length ≤ 8 ∧ (occ l).length ≤ 500 ∧ ∀ f ∈ l, nameB f.f0 = true := by
  unfold mayN at h
  split at h
  · cases h
  · obtain ⟨h1, h2⟩ := mayD_occ l [] 0 h
    exact ⟨by omega, by omega, h2⟩
theorem names_ok {l : List Fd} (h : ∀ f ∈ l, nameB f.f0 = true) : namesOk l := fun f hf => ⟨by have := name_size (h f hf); omega, name_zero (h f hf)⟩
/-- Fields that are few and short. -/
def Short (l : List Fd) : Prop := l.length ≤ 10 ∧ ∀ f ∈ l, f.f0.size ≤ 100 ∧ f.f1.size ≤ 100
theorem Short.docOk {l : List Fd} (h : Short l) : docOk l := ⟨by have := h.1; omega, fun f hf => by have := (h.2 f hf).2; omega⟩
/-- An entry that may be. -/
structure Fit9 (e : Ent) : Prop where
  short : Short e.f0.f1
  may : mayN e.f0.f1 = 0
  nice : Nice e.f0.f1
theorem Fit9.okE {e : Ent} (h : Fit9 e) : okE e := ⟨h.short.docOk, names_ok h.nice.1, (mayN_occ h.may).2.1⟩
theorem okE_of {id seq : Int} {l : List Fd} (h : Short l) (hm : mayN l = 0) : okE ⟨⟨id, l⟩, seq⟩ := ⟨h.docOk, names_ok (mayN_occ hm).2.2, (mayN_occ hm).2.1⟩

/-! ### rows of entries -/
theorem rdE_nat (l : List Ent) (i : Nat) (h : i < l.length) : rd_T33 l (i : Int) = l[i] := by unfold rd_T33; rw [Int.toNat_natCast, List.getD_eq_getElem?_getD, List.getElem?_eq_getElem h]; rfl
theorem rdD_nat (l : List S31) (i : Nat) (h : i < l.length) : rd_T31 l (i : Int) = l[i] := by unfold rd_T31; rw [Int.toNat_natCast, List.getD_eq_getElem?_getD, List.getElem?_eq_getElem h]; rfl
theorem same9_loop (L : List Ent) (hn : L.length ≤ 1000000) (hs : ∀ e ∈ L, e.f0.f1.length ≤ 1000000) (d : Nat) : ∀ i : Nat, i + d = L.length → Ev (fun k => concordanceref09_Same.l0 k L L (i : Int)) true := by
  induction d with
  | zero =>
    intro i hi
    refine Ev.step (fun k => by rw [concordanceref09_Same.l0]) ?_
    exact Ev.neg (by omega) (Ev.ret rfl)
  | succ d ih =>
    intro i hi
    have ha : i < L.length := by omega
    refine Ev.step (fun k => by rw [concordanceref09_Same.l0, rdE_nat L i ha, wrap_nat i (by omega)]) ?_
    refine Ev.pos (by omega) <| Ev.pos (by omega) <| Ev.pos (by omega) ?_
    have h := same_r L[i].f0.f0 L[i].f0.f0 L[i].f0.f1 L[i].f0.f1 (hs _ (List.getElem_mem ha))
    rw [decide_eq_true (⟨rfl, rfl⟩ : L[i].f0.f0 = L[i].f0.f0 ∧ L[i].f0.f1 = L[i].f0.f1)] at h
    exact Ev.bind h (Ev.pos rfl (Ev.pos rfl (ih (i + 1) (by omega))))
theorem same9_ev (L : List Ent) (hn : L.length ≤ 1000000) (hs : ∀ e ∈ L, e.f0.f1.length ≤ 1000000) : Ev (fun k => concordanceref09_Same.f k L L) true := by
  unfold concordanceref09_Same.f
  exact Ev.pos rfl (same9_loop L hn hs L.length 0 (by omega))
theorem weigh_le {L : List Ent} (h : ∀ e ∈ L, okE e) : weigh L ≤ 500 * L.length := by
  induction L with
  | nil => simp [weigh]
  | cons e X ih =>
    have h1 := ih (fun q hq => h q (List.mem_cons_of_mem _ hq))
    have h2 := (h e List.mem_cons_self).2.2
    have h3 : weigh (e :: X) = (occ e.f0.f1).length + weigh X := by simp [weigh]
    rw [h3, List.length_cons]
    omega
theorem words9_loop (L : List Ent) (hn : L.length ≤ 1000) (hs : ∀ e ∈ L, Fit9 e) (d : Nat) : ∀ i : Nat, i + d = L.length → Ev (fun k => concordanceref09_Words.l0 k L (weigh (L.take i) : Int) (i : Int)) (weigh L : Int) := by
  induction d with
  | zero =>
    intro i hi
    refine Ev.step (fun k => by rw [concordanceref09_Words.l0]) ?_
    exact Ev.neg (by omega) (Ev.ret (by rw [show i = L.length by omega, List.take_length]))
  | succ d ih =>
    intro i hi
    have ha : i < L.length := by omega
    have hf := hs _ (List.getElem_mem ha)
    have hw1 := weigh_le (L := L.take i) (fun e he => (hs e (List.mem_of_mem_take he)).okE)
    have hl1 : (L.take i).length ≤ i := by rw [List.length_take]; omega
    have hw2 := hf.okE.2.2
    have hsn : weigh (L.take (i + 1)) = weigh (L.take i) + (occ L[i].f0.f1).length := by rw [List.take_succ_eq_append_getElem ha, weigh_snoc]
    refine Ev.step (fun k => by rw [concordanceref09_Words.l0, rdE_nat L i ha, wrap_nat i (by omega)]) ?_
    refine Ev.pos (by omega) <| Ev.pos (by omega) <| Ev.bind (weight_ev L[i].f0.f0 L[i].f0.f1 hf.short.docOk hf.nice) ?_
    have e1 : wrap64 (((weigh (L.take i) : Nat) : Int) + ((occ L[i].f0.f1).length : Int)) = ((weigh (L.take (i + 1)) : Nat) : Int) := by
      rw [wrap_small _ (by omega), hsn]; push_cast; rfl
    rw [e1]
    exact ih (i + 1) (by omega)
theorem words9_ev (L : List Ent) (hn : L.length ≤ 1000) (hs : ∀ e ∈ L, Fit9 e) : Ev (fun k => concordanceref09_Words.f k L) (weigh L : Int) := by
  unfold concordanceref09_Words.f
  exact words9_loop L hn hs L.length 0 (by omega)
/-- Entries made of documents: their numbers rise. -/
structure Made (src : List S31) (start step : Int) (most : Nat) (g : List Ent) : Prop where
  len : g.length = min src.length most
  fit : ∀ e ∈ g, Fit9 e
  seq : ∀ (i : Nat) (h : i < g.length), g[i].f1 = start + step * (i : Int)
theorem Fine2.short {l g : List Fd} (h : Fine2 l g) : Short g := ⟨by have := h.few; omega, fun f hf => by
  have h1 := name_size (h.nice.1.1 f hf)
  have h2 := (h.small f hf).2
  omega⟩
theorem good9_loop (src : List S31) (start step : Int) (most : Nat) (hm : most ≤ 100) (h0 : 0 ≤ start ∧ start ≤ 100 ∧ 0 ≤ step ∧ step ≤ 100) (hl : src.length ≤ 9223372036854775807) (hd : ∀ q ∈ src, q.f1.length ≤ 9223372036854775807 ∧ ∀ f ∈ q.f1, f.f0.size ≤ 9223372036854775807) (d : Nat) :
    ∀ (i : Nat) (acc : List Ent), i + d = min src.length most → acc.length = i → (∀ e ∈ acc, Fit9 e) → (∀ (j : Nat) (h : j < acc.length), acc[j].f1 = start + step * (j : Int)) →
    ∃ g, Ev (fun k => concordanceref09_Good.l0 k src (most : Int) start step acc (i : Int)) g ∧ Made src start step most g := by
  induction d with
  | zero =>
    intro i acc hi ha hf hsq
    refine ⟨acc, ?_, ⟨by omega, hf, hsq⟩⟩
    refine Ev.step (fun k => by rw [concordanceref09_Good.l0]) ?_
    by_cases h : i < src.length
    · exact Ev.pos (by omega) (Ev.neg (by omega) (Ev.ret rfl))
    · exact Ev.neg (by omega) (Ev.ret rfl)
  | succ d ih =>
    intro i acc hi ha hf hsq
    have hil : i < src.length := by omega
    have him : i < most := by omega
    obtain ⟨g, hg, hG⟩ := good2_ev src[i].f0 src[i].f1 (hd _ (List.getElem_mem hil)).1 (hd _ (List.getElem_mem hil)).2
    have hb : 0 ≤ step * (i : Int) ∧ step * (i : Int) ≤ 100 * 100 := ⟨Int.mul_nonneg h0.2.2.1 (by omega), Int.mul_le_mul h0.2.2.2 (by omega) (by omega) (by omega)⟩
    have e1 : wrap64 (start + wrap64 (step * (i : Int))) = start + step * (i : Int) := by rw [wrap_small (step * (i : Int)) (by omega), wrap_small _ (by omega)]
    obtain ⟨G, hE, hM⟩ := ih (i + 1) (acc ++ [⟨⟨src[i].f0, g⟩, start + step * (i : Int)⟩]) (by omega) (by simp; omega) (fun e he => by
      rcases List.mem_append.1 he with he | he
      · exact hf e he
      · rw [List.mem_singleton.1 he]; exact ⟨hG.short, hG.nice.2, hG.nice.1⟩) (fun j hj => by
      by_cases hj2 : j < acc.length
      · rw [List.getElem_append_left hj2]; exact hsq j hj2
      · have : j = i := by simp at hj; omega
        subst this
        rw [List.getElem_append_right (by omega)]
        simp)
    refine ⟨G, ?_, hM⟩
    refine Ev.step (fun k => by rw [concordanceref09_Good.l0, rdD_nat src i hil, wrap_nat i (by omega), e1]) ?_
    exact Ev.pos (by omega) <| Ev.pos (by omega) <| Ev.pos (by omega) <| Ev.bind hg <| Ev.pos (by omega) hE
theorem good9_ev (src : List S31) (start step : Int) (most : Nat) (hm : most ≤ 100) (h0 : 0 ≤ start ∧ start ≤ 100 ∧ 0 ≤ step ∧ step ≤ 100) (hl : src.length ≤ 9223372036854775807) (hd : ∀ q ∈ src, q.f1.length ≤ 9223372036854775807 ∧ ∀ f ∈ q.f1, f.f0.size ≤ 9223372036854775807) :
    ∃ g, Ev (fun k => concordanceref09_Good.f k src (most : Int) start step) g ∧ Made src start step most g := by
  unfold concordanceref09_Good.f
  exact good9_loop src start step most hm h0 hl hd (min src.length most) 0 [] (by omega) rfl (by simp) (by simp)
end Go.Proofs.YteidebllianiiaaGreatDoor

/- A step upon the map: one posting more behind a text's row. Condition: on sizes alone. -/
set_option linter.unusedVariables false
set_option linter.unusedSimpArgs false
namespace Go.Proofs.YteidebllianiiaaGreatDoor
open Go.RowKit Go.MapKept Go.ChangeMaps Go.Proofs.YteidebllianiiaaGreatDoor.PAll Go.Proofs.YteidebllianiiaaGreatDoorW.PrintWords Go.Proofs.YteidebllianiiaaGreatDoorW.PrintLast Go.Proofs.YteidebllianiiaaGreatDoorW.PrintMore

theorem infoPst : ∃ i0, Tryz.prog.info? 41 = some i0 ∧ i0.zero = some (.agg #[.int .i64 0, .slice none 0 0]) ∧ i0.size = 2 ∧ i0.bytes = 32 := by
  have h := info41
  obtain ⟨i0, hi, hz⟩ := Option.map_eq_some_iff.1 h
  simp only [Prod.mk.injEq] at hz
  exact ⟨i0, hi, hz.1, hz.2.1, hz.2.2⟩
theorem map_far {W : World} {m : Nat} {es : Array MapEntry} {c : Nat} (h : W.heap[m]? = some (.map es c)) : ∀ cells t, (Obj.map es c) = .cells cells t (0, 0) → t ≠ 41 ∧ t ≠ 3 := fun cells t e => by cases e
/-- What a step tells. -/
structure Stept (K : Nat → Prop) (W : World) (m N : Nat) (f : ByteArray → List Pst) (s : ByteArray) (x : Pst) (pv v0 v1 : Value) (W4 W5 : World) : Prop where
  look : (Instr.lookup 61 (.map (some m)) (.string s) false).run Tryz.prog W = .ok v0 W
  look1 : (Instr.lookup 61 (.map (some m)) (.string s) false).run Tryz.prog (W.alloc (.cells #[.int .i64 x.f0, pv] 41)) = .ok v0 (W.alloc (.cells #[.int .i64 x.f0, pv] 41))
  look4 : (Instr.lookup 61 (.map (some m)) (.string s) false).run Tryz.prog W4 = .ok v0 W4
  app : ∀ ty, (Builtin.append_ #[36, 36] ty #[v0, .slice (some ⟨W.heap.size, 0, none⟩) 1 1]).run Tryz.prog (W.alloc (.cells #[.int .i64 x.f0, pv] 41)) = .ok v1 W4
  upd : (Instr.mapUpdate 61 (.map (some m)) (.string s) v1).run Tryz.prog W4 = .ok () W5
  only4 : Only K m W W4
  only5 : Only K m W W5
  maps : MapsAt K m (N + 1) (fun u => f u ++ if u = s then [x] else []) W5
theorem maps_step {K : Nat → Prop} {W : World} {m N : Nat} {f : ByteArray → List Pst} (h : MapsAt K m N f W) (hKlt : ∀ k, K k → k < W.heap.size) (s : ByteArray) (hs : s.size ≤ 1000000000) (x : Pst) (pv : Value)
    (hp : Kd.R (Kd.int .i64) 3 W 0 (fun k => ¬ K k) pv x.f1) (hl : (f s).length ≤ 1000000000) : ∃ v0 v1 W4 W5, Stept K W m N f s x pv v0 v1 W4 W5 := by
  obtain ⟨es, clock, h⟩ := h
  obtain ⟨v0, hlook, hR0, hA0⟩ := maps_look h s hs
  obtain ⟨W1, hW1⟩ : ∃ W1, W1 = W.alloc (.cells #[.int .i64 x.f0, pv] 41) := ⟨_, rfl⟩
  have hb1 : Below W.heap.size W W1 := by rw [hW1]; exact below_alloc (Below.refl _ _) _ (Nat.le_refl _)
  have hz1 : W1.heap.size = W.heap.size + 1 := by rw [hW1]; simp
  have hmlt := (Array.getElem?_eq_some_iff.1 h.map).1
  have hm1 : W1.heap[m]? = some (.map es clock) := (hb1.block m hmlt).trans h.map
  have hbk : W1.heap[W.heap.size]? = some (.cells #[.int .i64 x.f0, pv] 41 (0, 0)) := by rw [hW1]; exact heap_alloc_new W _
  obtain ⟨_, inner0, ho0, _⟩ := id hR0
  have hown0 : ∀ k, v0.ownBlock = some k → ∃ cells, W.heap[k]? = some (.cells cells 41 (0, 0)) := fun k hk => own_typed ho0 k hk
  have hR1 := Kd.R_below hR0 hb1
  have hp1 := Kd.R_below hp hb1
  obtain ⟨i0, hi, hi0, hi1, hi2⟩ := infoPst
  have hcs : ∀ (j : Nat) (u : Value), [Value.int .i64 x.f0, pv][j]? = some u → W1.cell? ((⟨W.heap.size, 0, none⟩ : Addr).add j) = some u := by
    intro j u hj
    match j with
    | 0 => simp at hj; subst hj; exact (blk_cell hbk 0).trans rfl
    | 1 => simp at hj; subst hj; exact (blk_cell hbk 1).trans rfl
    | j + 2 => simp at hj
  have hM : k41.M W1 0 (fun k => ¬ K k ∧ ∃ cells, W1.heap[k]? = some (.cells cells 3 (0, 0))) x [.int .i64 x.f0, pv] := k41_mkM W1 0 _ x (Kd.R_mono (Kd.R_bound hp1) (fun k hk => ⟨hk.1, by
    obtain ⟨_, _, _, q, hq, cells, hc⟩ := hk
    have hq2 : q = 3 := by simpa [Kd.int, Kd.scalar] using hq
    exact ⟨cells, by rw [hc, hq2]⟩⟩))
  have hokp : ∀ k, (¬ K k ∧ ∃ cells, W1.heap[k]? = some (.cells cells 3 (0, 0))) → ¬ K k ∧ some k ≠ v0.ownBlock := fun k hk => ⟨hk.1, fun e => by
    obtain ⟨c1, q1⟩ := hk.2
    obtain ⟨c2, q2⟩ := hown0 k e.symm
    rw [hb1.block k (Array.getElem?_eq_some_iff.1 q2).1, q2] at q1
    injection q1 with q1
    injection q1 with _ q1 _
    revert q1; decide⟩
  have hex : ∃ v1 W4, (∀ ty, (Builtin.append_ #[36, 36] ty #[v0, .slice (some ⟨W.heap.size, 0, none⟩) 1 1]).run Tryz.prog W1 = .ok v1 W4) ∧ Kd.R k41 41 W4 0 (fun k => ¬ K k) v1 (f s ++ [x]) ∧ W1.grownBy W4 v0.ownBlock ∧ (v1.ownBlock = v0.ownBlock ∨ v1.ownBlock = some W1.heap.size) := by
    obtain ⟨v1, W4, a1, a2⟩ := append_one k41 (P := Tryz.prog) W1 0 36 0 41 i0 (.agg #[.int .i64 0, .slice none 0 0]) 32 Tryz.underlying36 hi hi0 hi1 hi2 rfl (by decide) (by decide) hR1 hcs hM hokp (fun k hk q => by have := hKlt k q; omega) (Nat.zero_le _) (by omega)
    exact ⟨v1, W4, fun ty => a1, a2⟩
  obtain ⟨v1, W4, hap, hR4, hg4, hat⟩ := hex
  have hm4 : W4.heap[m]? = some (.map es clock) := (hg4.block m (by omega) (fun e => by
    obtain ⟨c, q⟩ := hown0 m e.symm
    rw [h.map] at q
    cases q)).trans hm1
  have hks : ∀ y ∈ es.toList, ∃ l, keyOf Tryz.prog 9 y.key = some l := fun y hy => by
    obtain ⟨t, e, q, _⟩ := h.who y hy
    rw [e]; exact ⟨_, keyOfS t q⟩
  obtain ⟨es', clock', hupd, S⟩ := update_raw keyedS Tryz.underlying61 hm4 h.stamped hks (keyOfS s hs) v1
  obtain ⟨W5, hW5⟩ : ∃ W5, W5 = setBlock W4 m (.map es' clock') := ⟨_, rfl⟩
  rw [← hW5] at hupd
  have hg5 : W4.grownBy W5 (some m) := by rw [hW5]; exact grown_block hm4
  have hm5 : W5.heap[m]? = some (.map es' clock') := by rw [hW5]; exact Go.ChangeMaps.heap_setBlock_same hm4 _
  have h4size := hg4.size
  have h5size := hg5.size
  have hK0 : ∀ k, v0.ownBlock = some k → ¬ K k := hR0.1
  have hmv4 : Moves (fun k => ¬ K k) W W4 := (Moves.of_below hb1).grown hg4 (fun k e => .inl (hK0 k e))
  have hmv5 : Moves (fun k => ¬ K k) W W5 := hmv4.grown hg5 (fun k e => by cases e; exact .inl h.km)
  have hty4 : ∀ k, k < W.heap.size → W4.heap[k]? = W.heap[k]? ∨ ∃ cells, W.heap[k]? = some (.cells cells 41 (0, 0)) := fun k hk => by
    by_cases e : some k = v0.ownBlock
    · exact .inr (hown0 k e.symm)
    · exact .inl ((hg4.block k (by omega) e).trans (hb1.block k hk))
  refine ⟨v0, v1, W4, W5, hlook W h.map, by rw [← hW1]; exact hlook W1 hm1, hlook W4 hm4, by rw [← hW1]; exact hap, hupd, ⟨hmv4, fun k hk => (hty4 k hk).elim .inl (fun q => .inr (.inr q))⟩, ⟨hmv5, fun k hk => ?_⟩, es', clock', hm5, h.km, S.stamped, by have := S.size; have := h.size; omega, fun y hy => ?_, fun t ht => ?_, fun y hy z hz hne k hk => ?_⟩
  · by_cases e : k = m
    · exact .inr (.inl e)
    · rcases hty4 k hk with q | q
      · exact .inl ((hg5.block k (by omega) (fun e2 => e (Option.some.inj e2))).trans q)
      · exact .inr (.inr q)
  · rcases S.who y hy with ⟨hy0, hne⟩ | ⟨e1, e2⟩
    · obtain ⟨t, a1, a2, a3, a4⟩ := h.who y hy0
      have htne : ¬ t = s := fun e => hne (by rw [a1, e])
      refine ⟨t, a1, a2, ?_, ?_⟩
      · rw [if_neg htne, List.append_nil]; exact a3
      · rw [if_neg htne, List.append_nil]
        have b0 := posts_apart a4 ho0 (fun k hk => hA0 y hy0 hne k hk)
        have b1 := Kd.R_below b0 hb1
        have b4 := Kd.R_grown b1 hg4 (fun k hk => hk.2)
        have b5 := Kd.R_grown (posts_far b4 hm4 (map_far hm4)) hg5 (fun k hk e => hk.2 (Option.some.inj e))
        exact Kd.R_mono b5 (fun k hk => hk.1.1)
    · refine ⟨s, e1, hs, ?_, ?_⟩
      · rw [if_pos rfl]; simp
      · rw [if_pos rfl, e2]
        have b5 := Kd.R_grown (posts_far hR4 hm4 (map_far hm4)) hg5 (fun k hk e => hk.2 (Option.some.inj e))
        exact Kd.R_mono b5 (fun k hk => hk.1)
  · by_cases e : t = s
    · obtain ⟨y, hy, e1, _⟩ := S.new
      exact ⟨y, hy, by rw [e1, e]⟩
    · rw [if_neg e, List.append_nil] at ht
      obtain ⟨y, hy, e1⟩ := h.all t ht
      exact ⟨y, S.old y hy (fun e2 => e (by rw [e1] at e2; exact Value.string.inj e2)), e1⟩
  · have hfar : ∀ y ∈ es.toList, y.key ≠ .string s → ∀ k, y.val.ownBlock = some k → v1.ownBlock ≠ some k := by
      intro y hy hne k hk
      rcases hat with q | q
      · rw [q]; exact hA0 y hy hne k hk
      · rw [q]
        intro e
        obtain ⟨t, _, _, _, a4⟩ := h.who y hy
        obtain ⟨_, _, oy, _⟩ := a4
        have := own_lt oy k hk
        have := Option.some.inj e
        omega
    rcases S.who y hy with ⟨hy0, hyn⟩ | ⟨ey, ev⟩ <;> rcases S.who z hz with ⟨hz0, hzn⟩ | ⟨ez, ew⟩
    · exact h.apart y hy0 z hz0 hne k hk
    · rw [ew]; exact hfar y hy0 hyn k hk
    · rw [ev] at hk
      exact fun e => hfar z hz0 hzn k e hk
    · exact (hne (ey.trans ez.symm)).elim
/-- An append whose outcome is known, in a region that draws. -/
theorem step_append_run {ops : Array Oper} {o : Oper} {a : Act} {w w' : World} {K : Act → World → Prop} {Q : Exit → Act → World → Prop} {E : Prop}
    (hg : o.guard = none) (s x : Operand) (t : TypeId) (hop : o.op = Op.call { callee := Callee.builtin Builtin.append, args := #[s, x], argTypes := #[t, t] })
    (v u v' : Value) (hs : a.eval s = v) (hx : a.eval x = u) (hr : (Builtin.append_ #[t, t] o.type #[v, u]).run Tryz.prog w = .ok v' w') (hK : K (a.put o.dst v') w') :
    if Region.wanted o (yielded ops a.tmps) = true then Oper.wp Tryz.prog o a w K Q else E := by
  have hw : Region.wanted o (yielded ops a.tmps) = true := by simp [Region.wanted, hg]
  rw [if_pos hw]
  unfold Oper.wp
  simp [execOp, hop, resolve, invoke, builtin, hs, hx, hr, Result.andThen]
  exact hK
end Go.Proofs.YteidebllianiiaaGreatDoor

/- The buffer in memory: what it is, what leaves it alone. No condition. -/
set_option linter.unusedVariables false
set_option linter.unusedSimpArgs false
namespace Go.Proofs.YteidebllianiiaaGreatDoor
open Go.RowKit Go.MapKept Go.ChangeMaps Go.Proofs.YteidebllianiiaaGreatDoor.PAll Go.Proofs.YteidebllianiiaaGreatDoorW.PrintWords Go.Proofs.YteidebllianiiaaGreatDoorW.PrintLast Go.Proofs.YteidebllianiiaaGreatDoorW.PrintMore

def IsMap (W : World) (m : Nat) : Prop := ∃ es c, W.heap[m]? = some (.map es c)
theorem Only.block {K : Nat → Prop} {m : Nat} {W W' : World} (h : Only K m W W') (hm : IsMap W m) {g t : Nat} {cells : Array Value} (hb : W.heap[g]? = some (.cells cells t (0, 0))) (ht : t ≠ 41) : W'.heap[g]? = some (.cells cells t (0, 0)) := by
  rcases h.ty g (Array.getElem?_eq_some_iff.1 hb).1 with q | rfl | ⟨c, q⟩
  · exact q.trans hb
  · obtain ⟨es, c, q⟩ := hm
    rw [hb] at q; cases q
  · rw [hb] at q
    injection q with q
    injection q with _ q _
    exact (ht q).elim
theorem Only.row {K : Nat → Prop} {m : Nat} {W W' : World} (h : Only K m W W') (hm : IsMap W m) {α : Type} {d : Kd α} {e base : Nat} {ok : Nat → Prop} {v : Value} {xs : List α} (hR : Kd.R d e W base ok v xs) (ht : ∀ q, q ∈ e :: d.E → q ≠ 41) : Kd.R d e W' base ok v xs :=
  Kd.R_mono (Kd.R_move (Kd.R_bound hR) (fun k hk => by
    obtain ⟨_, _, _, q, hq, cells, hc⟩ := hk
    rw [hc]
    exact h.block hm hc (ht q hq))) (fun k hk => hk.1)
theorem Only.ismap {K : Nat → Prop} {m N : Nat} {f : ByteArray → List Pst} {W : World} (h : MapsAt K m N f W) : IsMap W m := by
  obtain ⟨es, c, h⟩ := h
  exact ⟨es, c, h.map⟩

/-- The buffer at block b: its map at m, kept blocks K. -/
structure BufF (K : Nat → Prop) (W : World) (b m N : Nat) (v : Value) (L : List Ent) (last : Int) : Prop where
  box : W.heap[b]? = some (.cells #[v, .map (some m), .int .i64 (weigh L : Int), .int .i64 last] 63 (0, 0))
  kb : ¬ K b
  klt : ∀ k, K k → k < W.heap.size
  maps : MapsAt K m N (posts L) W
  list : Kd.R k33 33 W 0 (fun k => ¬ K k) v L
  okl : okL L
  num : N ≤ 500 * L.length
  wf : -9223372036854775808 ≤ last ∧ last ≤ 9223372036854775807
def Buf (K : Nat → Prop) (b : Nat) (L : List Ent) (last : Int) (W : World) : Prop := ∃ m N v, BufF K W b m N v L last
section
variable {K K' : Nat → Prop} {W W' : World} {b m N : Nat} {v : Value} {L : List Ent} {last : Int}
theorem BufF.step (h : BufF K W b m N v L last) (hz : W.heap.size ≤ W'.heap.size) (hm : ∀ k, ¬ K k → k < W.heap.size → W'.heap[k]? = W.heap[k]?) : BufF K W' b m N v L last :=
  ⟨(hm b h.kb (Array.getElem?_eq_some_iff.1 h.box).1).trans h.box, h.kb, fun k q => Nat.lt_of_lt_of_le (h.klt k q) hz, h.maps.step hm, Kd.R_step h.list hm, h.okl, h.num, h.wf⟩
theorem BufF.less (h : BufF K W b m N v L last) (hk : ∀ k, K' k → K k) : BufF K' W b m N v L last :=
  ⟨h.box, fun q => h.kb (hk _ q), fun k q => h.klt k (hk _ q), h.maps.less hk, Kd.R_mono h.list (fun k q e => q (hk _ e)), h.okl, h.num, h.wf⟩
theorem BufF.also (h : BufF K W b m N v L last) (hb : Below W.heap.size W W') : BufF (Also K W W') W' b m N v L last :=
  ⟨(hb.block b (Array.getElem?_eq_some_iff.1 h.box).1).trans h.box, fun q => q.elim h.kb (fun q => by have := (Array.getElem?_eq_some_iff.1 h.box).1; omega), fun k q => q.elim (fun q => Nat.lt_of_lt_of_le (h.klt k q) hb.size) (fun q => q.2), h.maps.also hb,
    Kd.R_mono (Kd.R_below (Kd.R_bound h.list) hb) (fun k q e => e.elim q.1 (fun e => by have := q.2.2.1; omega)), h.okl, h.num, h.wf⟩
theorem BufF.cells (h : BufF K W b m N v L last) : W.cell? ⟨b, 0, none⟩ = some v ∧ W.cell? ⟨b, 1, none⟩ = some (.map (some m)) ∧ W.cell? ⟨b, 2, none⟩ = some (.int .i64 (weigh L : Int)) ∧ W.cell? ⟨b, 3, none⟩ = some (.int .i64 last) :=
  ⟨(blk_cell h.box 0).trans rfl, (blk_cell h.box 1).trans rfl, (blk_cell h.box 2).trans rfl, (blk_cell h.box 3).trans rfl⟩
theorem Buf.step (h : Buf K b L last W) (hz : W.heap.size ≤ W'.heap.size) (hm : ∀ k, ¬ K k → k < W.heap.size → W'.heap[k]? = W.heap[k]?) : Buf K b L last W' := by
  obtain ⟨m, N, v, h⟩ := h
  exact ⟨m, N, v, h.step hz hm⟩
theorem Buf.below (h : Buf K b L last W) (hb : Below W.heap.size W W') : Buf K b L last W' := h.step hb.size (fun k _ hk => hb.block k hk)
theorem Buf.less (h : Buf K b L last W) (hk : ∀ k, K' k → K k) : Buf K' b L last W := by
  obtain ⟨m, N, v, h⟩ := h
  exact ⟨m, N, v, h.less hk⟩
theorem Buf.also (h : Buf K b L last W) (hb : Below W.heap.size W W') : Buf (Also K W W') b L last W' := by
  obtain ⟨m, N, v, h⟩ := h
  exact ⟨m, N, v, h.also hb⟩
end
/-- What Add tells, and leaves. -/
def addB (L : List Ent) (last : Int) (e : Ent) (f : Int) : Int × List Ent × Int := if f = 0 then (if e.f1 ≤ last then (12, L, last) else (0, L ++ [e], e.f1)) else (f, L, last)
end Go.Proofs.YteidebllianiiaaGreatDoor

/- The buffer's row of entries: one more behind it; stores into the buffer's own block. Condition: on sizes alone. -/
set_option linter.unusedVariables false
set_option linter.unusedSimpArgs false
namespace Go.Proofs.YteidebllianiiaaGreatDoor
open Go.RowKit Go.MapKept Go.ChangeMaps Go.Proofs.YteidebllianiiaaGreatDoor.PAll Go.Proofs.YteidebllianiiaaGreatDoorW.PrintWords Go.Proofs.YteidebllianiiaaGreatDoorW.PrintLast Go.Proofs.YteidebllianiiaaGreatDoorW.PrintMore

theorem MapsAt.far {K : Nat → Prop} {W W' : World} {m N g t : Nat} {f : ByteArray → List Pst} {cs : Array Value} (h : MapsAt K m N f W) (hg : W.heap[g]? = some (.cells cs t (0, 0))) (ht : t ≠ 41 ∧ t ≠ 3) (hW : ∀ k, k < W.heap.size → k ≠ g → W'.heap[k]? = W.heap[k]?) : MapsAt K m N f W' := by
  obtain ⟨es, clock, h⟩ := h
  have hne : m ≠ g := fun e => by
    have := h.map
    rw [e, hg] at this
    cases this
  refine ⟨es, clock, (hW m (Array.getElem?_eq_some_iff.1 h.map).1 hne).trans h.map, h.km, h.stamped, h.size, fun x hx => ?_, h.all, h.apart⟩
  obtain ⟨s, a1, a2, a3, a4⟩ := h.who x hx
  have a5 := posts_far a4 hg (fun cells t' e => by
    injection e with _ e _
    rw [← e]; exact ht)
  exact ⟨s, a1, a2, a3, Kd.R_mono (Kd.R_step a5 (fun k hk hlt => hW k hlt hk.2)) (fun k hk => hk.1)⟩
/-- The buffer's parts, not yet tied. -/
structure PartsF (K : Nat → Prop) (W : World) (b m N : Nat) (f : ByteArray → List Pst) (v : Value) (L : List Ent) (a last : Int) : Prop where
  box : W.heap[b]? = some (.cells #[v, .map (some m), .int .i64 a, .int .i64 last] 63 (0, 0))
  kb : ¬ K b
  klt : ∀ k, K k → k < W.heap.size
  maps : MapsAt K m N f W
  list : Kd.R k33 33 W 0 (fun k => ¬ K k) v L
section
variable {K : Nat → Prop} {W W' : World} {b m N : Nat} {f : ByteArray → List Pst} {v : Value} {L : List Ent} {a last : Int}
theorem PartsF.step (h : PartsF K W b m N f v L a last) (hz : W.heap.size ≤ W'.heap.size) (hm : ∀ k, ¬ K k → k < W.heap.size → W'.heap[k]? = W.heap[k]?) : PartsF K W' b m N f v L a last :=
  ⟨(hm b h.kb (Array.getElem?_eq_some_iff.1 h.box).1).trans h.box, h.kb, fun k q => Nat.lt_of_lt_of_le (h.klt k q) hz, h.maps.step hm, Kd.R_step h.list hm⟩
theorem PartsF.below (h : PartsF K W b m N f v L a last) (hb : Below W.heap.size W W') : PartsF K W' b m N f v L a last := h.step hb.size (fun k _ hk => hb.block k hk)
theorem PartsF.cells (h : PartsF K W b m N f v L a last) : W.cell? ⟨b, 0, none⟩ = some v ∧ W.cell? ⟨b, 1, none⟩ = some (.map (some m)) ∧ W.cell? ⟨b, 2, none⟩ = some (.int .i64 a) ∧ W.cell? ⟨b, 3, none⟩ = some (.int .i64 last) :=
  ⟨(blk_cell h.box 0).trans rfl, (blk_cell h.box 1).trans rfl, (blk_cell h.box 2).trans rfl, (blk_cell h.box 3).trans rfl⟩
theorem setCell_size (W : World) (p : Addr) (u : Value) : (W.setCell p u).heap.size = W.heap.size := by simp [World.setCell]
theorem PartsF.set2 (h : PartsF K W b m N f v L a last) (c : Int) : PartsF K (W.setCell ⟨b, 2, none⟩ (.int .i64 c)) b m N f v L c last :=
  ⟨(blk_set h.box 2 _).trans rfl, h.kb, fun k q => by rw [setCell_size]; exact h.klt k q, h.maps.far h.box (by decide) (fun k _ hk => Below.heap_setCell W _ _ k hk), Kd.R_set h.list h.box (by decide) 2 _⟩
theorem PartsF.set3 (h : PartsF K W b m N f v L a last) (c : Int) : PartsF K (W.setCell ⟨b, 3, none⟩ (.int .i64 c)) b m N f v L a c :=
  ⟨(blk_set h.box 3 _).trans rfl, h.kb, fun k q => by rw [setCell_size]; exact h.klt k q, h.maps.far h.box (by decide) (fun k _ hk => Below.heap_setCell W _ _ k hk), Kd.R_set h.list h.box (by decide) 3 _⟩
end
theorem infoEnt : ∃ i0, Tryz.prog.info? 33 = some i0 ∧ i0.zero = some (.agg #[.int .i64 0, .slice none 0 0, .int .i64 0]) ∧ i0.size = 3 ∧ i0.bytes = 40 := by
  have h := info33
  obtain ⟨i0, hi, hz⟩ := Option.map_eq_some_iff.1 h
  simp only [Prod.mk.injEq] at hz
  exact ⟨i0, hi, hz.1, hz.2.1, hz.2.2⟩
/-- One entry more, and the store: what stands behind. -/
theorem list_step {K : Nat → Prop} {W : World} {b m N : Nat} {f : ByteArray → List Pst} {v : Value} {L : List Ent} {a last : Int} (h : PartsF K W b m N f v L a last) (ide seq : Int) (l : List S50) (pv : Value)
    (hp : Kd.R k50 50 W 0 (fun k => ¬ K k) pv l) (hL : L.length ≤ 1000) :
    ∃ v1 W4, (∀ ty, (Builtin.append_ #[25, 25] ty #[v, .slice (some ⟨W.heap.size, 0, none⟩) 1 1]).run Tryz.prog (W.alloc (.cells #[.int .i64 ide, pv, .int .i64 seq] 33)) = .ok v1 W4) ∧
      W4.heap[b]? = W.heap[b]? ∧ (∀ g, g < W.heap.size → v.ownBlock ≠ some g → W4.heap[g]? = W.heap[g]?) ∧
      PartsF K (W4.setCell ⟨b, 0, none⟩ v1) b m N f v1 (L ++ [⟨⟨ide, l⟩, seq⟩]) a last ∧ Moves (fun k => ¬ K k) W (W4.setCell ⟨b, 0, none⟩ v1) ∧
      ∀ g, g < W.heap.size → g ≠ b → v.ownBlock ≠ some g → (W4.setCell ⟨b, 0, none⟩ v1).heap[g]? = W.heap[g]? := by
  obtain ⟨W1, hW1⟩ : ∃ W1, W1 = W.alloc (.cells #[.int .i64 ide, pv, .int .i64 seq] 33) := ⟨_, rfl⟩
  have hb1 : Below W.heap.size W W1 := by rw [hW1]; exact below_alloc (Below.refl _ _) _ (Nat.le_refl _)
  have hz1 : W1.heap.size = W.heap.size + 1 := by rw [hW1]; simp
  have hbk : W1.heap[W.heap.size]? = some (.cells #[.int .i64 ide, pv, .int .i64 seq] 33 (0, 0)) := by rw [hW1]; exact heap_alloc_new W _
  have hblt := (Array.getElem?_eq_some_iff.1 h.box).1
  obtain ⟨_, inner0, ho0, _⟩ := id h.list
  have hown0 : ∀ k, v.ownBlock = some k → ∃ cells, W.heap[k]? = some (.cells cells 33 (0, 0)) := fun k hk => own_typed ho0 k hk
  have hR1 := Kd.R_below h.list hb1
  have hp1 := Kd.R_below hp hb1
  obtain ⟨i0, hi, hi0, hi1, hi2⟩ := infoEnt
  have hcs : ∀ (j : Nat) (u : Value), [Value.int .i64 ide, pv, .int .i64 seq][j]? = some u → W1.cell? ((⟨W.heap.size, 0, none⟩ : Addr).add j) = some u := by
    intro j u hj
    match j with
    | 0 => simp at hj; subst hj; exact (blk_cell hbk 0).trans rfl
    | 1 => simp at hj; subst hj; exact (blk_cell hbk 1).trans rfl
    | 2 => simp at hj; subst hj; exact (blk_cell hbk 2).trans rfl
    | j + 3 => simp at hj
  have hM : k33.M W1 0 (fun k => ¬ K k ∧ ∃ cells, W1.heap[k]? = some (.cells cells 50 (0, 0))) (⟨⟨ide, l⟩, seq⟩ : Ent) [.int .i64 ide, pv, .int .i64 seq] := k33_mkM W1 0 _ _ (Kd.R_mono (Kd.R_bound hp1) (fun k hk => ⟨hk.1, by
    obtain ⟨_, _, _, q, hq, cells, hc⟩ := hk
    have hq2 : q = 50 := by
      have : k50.E = [] := rfl
      rw [this] at hq
      simpa using hq
    exact ⟨cells, by rw [hc, hq2]⟩⟩))
  have hokp : ∀ k, (¬ K k ∧ ∃ cells, W1.heap[k]? = some (.cells cells 50 (0, 0))) → ¬ K k ∧ some k ≠ v.ownBlock := fun k hk => ⟨hk.1, fun e => by
    obtain ⟨c1, q1⟩ := hk.2
    obtain ⟨c2, q2⟩ := hown0 k e.symm
    rw [hb1.block k (Array.getElem?_eq_some_iff.1 q2).1, q2] at q1
    injection q1 with q1
    injection q1 with _ q1 _
    revert q1; decide⟩
  have hex : ∃ v1 W4, (∀ ty, (Builtin.append_ #[25, 25] ty #[v, .slice (some ⟨W.heap.size, 0, none⟩) 1 1]).run Tryz.prog W1 = .ok v1 W4) ∧ Kd.R k33 33 W4 0 (fun k => ¬ K k) v1 (L ++ [⟨⟨ide, l⟩, seq⟩]) ∧ W1.grownBy W4 v.ownBlock := by
    obtain ⟨v1, W4, a1, a2, a3, _⟩ := append_one k33 (P := Tryz.prog) W1 0 25 0 33 i0 (.agg #[.int .i64 0, .slice none 0 0, .int .i64 0]) 40 Tryz.underlying25 hi hi0 hi1 hi2 rfl (by decide) (by decide) hR1 hcs hM hokp (fun k hk q => by have := h.klt k q; omega) (Nat.zero_le _) (by omega)
    exact ⟨v1, W4, fun ty => a1, a2, a3⟩
  obtain ⟨v1, W4, hap, hR4, hg4⟩ := hex
  have h4 := hg4.size
  have hsame : ∀ g, g < W.heap.size → v.ownBlock ≠ some g → W4.heap[g]? = W.heap[g]? := fun g hg hne => (hg4.block g (by omega) (fun e => hne e.symm)).trans (hb1.block g hg)
  have hbne : v.ownBlock ≠ some b := fun e => by
    obtain ⟨c, q⟩ := hown0 b e
    rw [h.box] at q
    injection q with q
    injection q with _ q _
    revert q; decide
  have hb4 := (hsame b hblt hbne).trans h.box
  have hmaps1 : MapsAt K m N f W1 := h.maps.step (fun k _ hk => hb1.block k hk)
  have hmaps4 : MapsAt K m N f W4 := by
    cases hv : v.ownBlock with
    | none => exact hmaps1.step (fun k _ hk => hg4.block k hk (by rw [hv]; simp))
    | some g =>
      obtain ⟨c, q⟩ := hown0 g hv
      exact hmaps1.far ((hb1.block g (Array.getElem?_eq_some_iff.1 q).1).trans q) (by decide) (fun k hk hne => hg4.block k hk (by rw [hv]; exact fun e => hne (Option.some.inj e)))
  refine ⟨v1, W4, by rw [← hW1]; exact hap, hsame b hblt hbne, hsame, ⟨(blk_set hb4 0 _).trans rfl, h.kb, fun k q => by rw [setCell_size]; have := h.klt k q; omega, hmaps4.far hb4 (by decide) (fun k _ hk => Below.heap_setCell W4 _ _ k hk), Kd.R_set hR4 hb4 (by decide) 0 _⟩,
    ((Moves.of_below hb1).grown hg4 (fun k e => .inl (h.list.1 k e))).store _ _ h.kb, fun g hg hne ho => (Below.heap_setCell W4 _ _ g hne).trans (hsame g hg ho)⟩
end Go.Proofs.YteidebllianiiaaGreatDoor

/- doc.May, walked. Condition: few bytes. -/
set_option linter.unusedVariables false
set_option linter.unusedSimpArgs false
namespace Go.Proofs.YteidebllianiiaaGreatDoor
open Go.RowKit Go.Shelf Go.Proofs.YteidebllianiiaaGreatDoor.PAll Go.Proofs.YteidebllianiiaaGreatDoorW.PrintWords Go.Proofs.YteidebllianiiaaGreatDoorW.PrintLast Go.Proofs.YteidebllianiiaaGreatDoorW.PrintMore

theorem tokens_any (s : ByteArray) (hs : s.size ≤ 1000000) (W : World) :
    Calls Tryz.prog 42 #[.string s] W fun e W' => ∃ (A : Option Addr) (n c : Nat), e = .returned (.tuple #[.slice A n c, .int .i64 (tokE (wordsT s) 0)]) ∧ (tokE (wordsT s) 0 = 0 → n = (wordsT s).length) ∧ Below W.heap.size W W' := by
  obtain ⟨r, h1, h2⟩ := wtok_ev s (by omega)
  obtain ⟨k, hk⟩ := h1.rounds
  refine (word_Tokens.calls k s r _ W hk).mono ?_
  rintro e W' ⟨v, rfl, hR, hb⟩
  obtain ⟨A, c, rfl⟩ := Kd.R_slice hR
  exact ⟨A, r.length, c, rfl, h2, hb⟩

set_option maxHeartbeats 4000000 in
set_option maxRecDepth 100000 in
theorem may_any (id : Int) (A : Option Addr) (c : Nat) (l : List S50) (w : World) (hC : Kd.C k50 w A l.length l) (hc : l.length ≤ c) (hl : docOk l) (hs : ∀ f ∈ l, f.f0.size ≤ 9223372036854775807) :
    Calls Tryz.prog 25 #[.agg #[.int .i64 id, .slice A l.length c]] w fun e w' => e = .returned (.int .i64 (mayN l)) ∧ Below w.heap.size w w' := by
  have hmf := fun (w : World) (fn : Fn) (a : Value) => (rfl : (Instr.makeFunc fn #[] #[a]).run Tryz.prog w = _)
  have HMF := Lib.hid hmf
  have HCUT := Lib.hid (fun (i : Nat) (hi : i ≤ l.length) (W : World) => show (Instr.slice 29 (.slice A l.length c) none (some (.int .i64 (i : Int))) none).run Tryz.prog W = .ok (.slice A i c) W from by
    obtain ⟨i0, hi0, _, _, _⟩ := info_parts info50
    have h := cut_to (P := Tryz.prog) 29 50 .i64 Tryz.underlying29 hi0 A l.length c (i : Int) (by omega) (by omega) hc W
    rwa [Int.toNat_natCast] at h)
  have HC := Lib.hid hC
  have HL := Lib.hid hl
  have HS := Lib.hid hs
  clear hC hl hs hmf hc
  by_cases h8 : 8 < l.length
  · have d1 : decide ((8 : Int) < (l.length : Int)) = true := decide_eq_true (by omega)
    have d2 : decide (8 < l.length) = true := decide_eq_true h8
    have HM := Lib.hid (show mayN l = 7 from if_pos h8)
    have HB := Lib.hid (below_alloc (Below.refl _ w) (.cells #[.int .i64 id, .slice A l.length c] 31) (Nat.le_refl _))
    clear h8
    go_enter Tryz.func25, Tryz.ntmps25
    go_wp2_with fail
    go_ret
    exact ⟨by rw [HM.out]; rfl, HB.out⟩
  · have d1 : decide ((8 : Int) < (l.length : Int)) = false := decide_eq_false (by omega)
    have d2 : decide (8 < l.length) = false := decide_eq_false h8
    have HM := Lib.hid (show mayN l = mayD [] l 0 from if_neg h8)
    have H8 := Lib.hid h8
    clear h8
    go_enter Tryz.func25, Tryz.ntmps25
    go_wp2_with fail
    clear d1 d2
    obtain ⟨w1, hw1⟩ : ∃ w1, w1 = w.alloc (.cells #[.int .i64 id, .slice A l.length c] 31) := ⟨_, rfl⟩
    rw [← hw1]
    have HB1 := Lib.hid (show Below w.heap.size w w1 by rw [hw1]; exact below_alloc (Below.refl _ _) _ (Nat.le_refl _))
    have HBX := Lib.hid (show w1.heap[w.heap.size]? = some (.cells #[.int .i64 id, .slice A l.length c] 31 (0, 0)) by rw [hw1]; exact heap_alloc_new w _)
    clear hw1
    go_loopw [3, 15] (fun v3 v15 wr => ∃ i : Nat, v15 = .int .i64 (i : Int) ∧ i ≤ l.length ∧ (∃ n : Nat, v3 = .int .i64 (n : Int) ∧ n ≤ 1000001 * i ∧ mayN l = mayD (l.take i) (l.drop i) n) ∧ Below w1.heap.size w1 wr) (fun _ v15 _ => l.length - (intOf v15).toNat)
    case atStart => exact ⟨0, rfl, by omega, ⟨0, rfl, by omega, by rw [HM.out]; rfl⟩, Below.refl _ _⟩
    case round =>
      clear HM
      obtain ⟨i, rfl, hi, ⟨n, rfl, hn, hm⟩, hB⟩ := hrel
      obtain ⟨W, hW⟩ : ∃ W, W = wr := ⟨_, rfl⟩
      rw [← hW] at hB ⊢
      clear hW wr
      have h8 := H8.out
      by_cases hlt : i < l.length
      · have g1 : (i : Int) < (l.length : Int) := by omega
        have d1 : decide ((i : Int) < (l.length : Int)) = true := decide_eq_true g1
        have hCW := Kd.C_below HC.out (HB1.out.trans (hB.mono HB1.out.size))
        obtain ⟨ad, rfl, c0, c1⟩ := field_in hCW i hlt
        have hdr := List.drop_eq_getElem_cons hlt
        have htk : l.take (i + 1) = l.take i ++ [l[i]] := List.take_succ_eq_append_getElem hlt
        have hsz := HL.out.2 _ (List.getElem_mem hlt)
        have hnz := HS.out _ (List.getElem_mem hlt)
        have dB := cell_stay2 hB ((blk_cell HBX.out 1).trans rfl : w1.cell? ⟨w.heap.size, 1, none⟩ = some (.slice (some ad) l.length c))
        obtain ⟨f, hf⟩ : ∃ f, f = l[i] := ⟨_, rfl⟩
        rw [← hf] at c0 c1 hdr htk hsz hnz
        rw [hdr] at hm
        obtain ⟨F, X⟩ := f
        have hmd : mayN l = if nameB F = false then 4 else if (l.take i).any (fun g => decide (g.f0 = F)) = true then 5 else if tokE (wordsT X) 0 = 0 then mayD (l.take (i + 1)) (l.drop (i + 1)) (n + (wordsT X).length) else tokE (wordsT X) 0 := by rw [hm, htk, mayD_cons]
        have hwl := wordsT_len X
        have HMD := Lib.hid hmd
        have HLT := Lib.hid hlt
        have HCW := Lib.hid hCW
        have HB := Lib.hid hB
        have HSZ := Lib.hid hsz
        have HNZ := Lib.hid hnz
        have HWL := Lib.hid hwl
        have hcut := HCUT.out i (by omega)
        have HN := Lib.hid hn
        clear hf hdr htk hsz hnz hm hmd hCW hB hwl h8 hn
        go_upto_region 7 with fail
        obtain ⟨W1, hW1⟩ : ∃ W1, W1 = W.alloc (.cells #[.string F, .string X] 50 (0, 0)) := ⟨_, rfl⟩
        rw [← hW1]
        have hb2 : Below W.heap.size W W1 := by rw [hW1]; exact below_alloc (Below.refl _ _) _ (Nat.le_refl _)
        have q0 : W1.heap[W.heap.size]? = some (.cells #[.string F, .string X] 50 (0, 0)) := by rw [hW1]; exact heap_alloc_new W _
        have d0 : W1.cell? ⟨W.heap.size, 0, none⟩ = some (.string F) := (blk_cell q0 0).trans rfl
        have d2 : W1.cell? ⟨W.heap.size, 1, none⟩ = some (.string X) := (blk_cell q0 1).trans rfl
        have dB1 := cell_stay2 hb2 dB
        have HB2 := Lib.hid hb2
        have HQ0 := Lib.hid q0
        clear hb2 hW1 q0 dB c0 c1
        go_wp2_with fail
        refine (tokens_any X HSZ.out W1).mono ?_
        rintro e W2 ⟨AT, nT, cT, rfl, hnT, hb3⟩
        obtain ⟨te, hte⟩ : ∃ te, te = tokE (wordsT X) 0 := ⟨_, rfl⟩
        rw [← hte] at hnT ⊢
        have d3 := cell_stay2 hb3 d0
        have dB2 := cell_stay2 hb3 dB1
        have HTE := Lib.hid hte
        have HNT := Lib.hid hnT
        have HB3 := Lib.hid (HB2.out.trans (hb3.mono HB2.out.size))
        have HQ2 := Lib.hid ((hb3.block _ (Array.getElem?_eq_some_iff.1 HQ0.out).1).trans HQ0.out)
        clear hte hnT hb3 d0 d2 dB1 HQ0 HB2
        go_wp2_with fail
        refine (doc_Name.calls F (nameB F) W2 (name_f F HNZ.out)).mono ?_
        rintro e W3 ⟨rfl, hb4⟩
        have dB3 := cell_stay2 hb4 dB2
        have HB4 := Lib.hid (HB3.out.trans (hb4.mono HB3.out.size))
        have HQ3 := Lib.hid ((hb4.block _ (Array.getElem?_eq_some_iff.1 HQ2.out).1).trans HQ2.out)
        clear hb4 d3 dB2 HQ2 HB3
        by_cases hnb : nameB F = true
        · rw [hnb]
          have HNB := Lib.hid (show ¬ nameB F = false by rw [hnb]; decide)
          clear hnb
          have hmf := HMF.out
          go_wp2_with fail
          have hCT := Kd.C_take (Kd.C_below HCW.out HB4.out) (m := i) (by omega)
          have hti : (l.take i).length = i := by rw [List.length_take]; omega
          have hco := contains_any W.heap.size F X (some ad) c (l.take i) W3 hCT (by have := HL.out.1; omega) HQ3.out
          rw [hti] at hco
          refine hco.mono ?_
          rintro e W4 ⟨rfl, hb5⟩
          have HB5 := Lib.hid (HB.out.trans ((HB4.out.trans (hb5.mono HB4.out.size)).mono HB.out.size))
          clear hb5 hco hCT hti dB3 hcut hmf HQ3 HB4
          obtain ⟨y, hy⟩ : ∃ y, y = (l.take i).any (fun g => decide (g.f0 = F)) := ⟨_, rfl⟩
          have HY := Lib.hid hy
          rw [← hy]
          clear hy
          cases y with
          | true =>
            have HR := Lib.hid (show mayN l = 5 by rw [HMD.out, if_neg HNB.out, if_pos HY.out.symm])
            go_wp2_with fail
            go_ret
            exact ⟨by rw [HR.out]; rfl, HB1.out.trans (HB5.out.mono HB1.out.size)⟩
          | false =>
            have hyf : ¬ (l.take i).any (fun g => decide (g.f0 = F)) = true := by rw [← HY.out]; decide
            by_cases ht0 : te = 0
            · have HR := Lib.hid (show mayN l = mayD (l.take (i + 1)) (l.drop (i + 1)) (n + nT) by rw [HMD.out, if_neg HNB.out, if_neg hyf, if_pos (HTE.out.symm.trans ht0), HNT.out ht0])
              have HNT2 := Lib.hid (HNT.out ht0)
              subst ht0
              clear hyf
              have hw1 : wrap64 ((i : Int) + 1) = ((i + 1 : Nat) : Int) := wrap_nat i (by have := HLT.out; have := H8.out; omega)
              have hw2 : IntKind.i64.wrap ((i : Int) + 1) = ((i + 1 : Nat) : Int) := by rw [i64_w]; exact hw1
              go_wp2_with fail
              go_roundw
              case rel =>
                have h1 := HNT2.out
                have h2 := HWL.out
                have h3 := HSZ.out
                have h4 := HN.out
                have h5 : n + nT ≤ 1000001 * (i + 1) := by omega
                have h6 := HLT.out
                have h7 := H8.out
                exact ⟨i + 1, by first | rfl | (push_cast; rfl) | rw [wrap_nat i (by omega)], by omega, ⟨n + nT, by first | rfl | (push_cast; rfl) | (rw [wrap_small _ (by omega)]; push_cast; rfl), h5, HR.out⟩, HB5.out⟩
              case measure =>
                have h6 := HLT.out
                have h7 := H8.out
                simp only [intOf]
                omega
            · have HR := Lib.hid (show mayN l = te by rw [HMD.out, if_neg HNB.out, if_neg hyf, if_neg (fun z => ht0 (HTE.out.trans z)), HTE.out])
              have e1 : (te != 0) = true := by simpa using ht0
              have e2 : (te == 0) = false := by simpa using ht0
              clear hyf ht0
              go_wp2_with fail
              go_ret
              exact ⟨by rw [HR.out]; rfl, HB1.out.trans (HB5.out.mono HB1.out.size)⟩
        · have hnf : nameB F = false := by simpa using hnb
          have HR := Lib.hid (show mayN l = 4 by rw [HMD.out, if_pos hnf])
          rw [hnf]
          clear hnb hnf
          go_wp2_with fail
          go_ret
          exact ⟨by rw [HR.out]; rfl, HB1.out.trans ((HB.out.trans (HB4.out.mono HB.out.size)).mono HB1.out.size)⟩
      · obtain rfl : i = l.length := by omega
        have d1 : decide ((l.length : Int) < (l.length : Int)) = false := decide_eq_false (by omega)
        rw [List.drop_length] at hm
        have HB := Lib.hid (HB1.out.trans (hB.mono HB1.out.size))
        clear hB
        by_cases h5 : 500 < n
        · have HR := Lib.hid (show mayN l = 7 by rw [hm, mayD_nil, if_pos h5])
          have e1 : decide ((500 : Int) < (n : Int)) = true := decide_eq_true (by omega)
          have e2 : decide (500 < n) = true := decide_eq_true h5
          clear hm h5
          go_wp2_with fail
          go_ret
          exact ⟨by rw [HR.out]; rfl, HB.out⟩
        · have HR := Lib.hid (show mayN l = 0 by rw [hm, mayD_nil, if_neg h5])
          have e1 : decide ((500 : Int) < (n : Int)) = false := decide_eq_false (by omega)
          have e2 : decide (500 < n) = false := decide_eq_false h5
          clear hm h5
          go_wp2_with fail
          go_ret
          exact ⟨by rw [HR.out]; rfl, HB.out⟩
def doc_May.f (_a : Int) (l : List S50) : Option Int := if docOk l ∧ ∀ f ∈ l, f.f0.size ≤ 9223372036854775807 then some (mayN l) else none

end Go.Proofs.YteidebllianiiaaGreatDoor

/- Add, told. Condition: few bytes. -/
set_option linter.unusedVariables false
set_option linter.unusedSimpArgs false
namespace Go.Proofs.YteidebllianiiaaGreatDoor
open Go.RowKit Go.MapKept Go.ChangeMaps Go.Proofs.YteidebllianiiaaGreatDoor.PAll Go.Proofs.YteidebllianiiaaGreatDoorW.PrintWords Go.Proofs.YteidebllianiiaaGreatDoorW.PrintLast Go.Proofs.YteidebllianiiaaGreatDoorW.PrintMore

theorem tm_at {w : World} {base c n : Nat} {A : Option Addr} {T : List Tm} (h : Kd.R k70 70 w base (fun _ => True) (.slice A n c) (T.map toS)) (j : Nat) (hj : j < T.length) :
    ∃ ad, A = some ad ∧ w.cell? (ad.add (j * 2)) = some (.string T[j].1) ∧ w.cell? ⟨(ad.add (j * 2)).block, (ad.add (j * 2)).off + 1, none⟩ = some (.string T[j].2) := by
  have hn := (Kd.R_reads' h).1
  have hn2 : (T.map toS).length = T.length := List.length_map _
  obtain ⟨ad, e, c0, c1⟩ := at_T70 (Kd.R_reads' h).2.2 (j : Int) (by omega) (by omega)
  have hr : rd_T70 (T.map toS) (j : Int) = toS T[j] := by unfold rd_T70; rw [Int.toNat_natCast, List.getD_eq_getElem?_getD, List.getElem?_map, List.getElem?_eq_getElem hj]; rfl
  rw [Int.toNat_natCast, hr] at c0 c1
  exact ⟨ad, e, c0, c1⟩
theorem val_at {w : World} {base n c : Nat} {A : Option Addr} {vs : List Value} (h : w.ownsRow base 39 1 (.slice A n c) vs.length vs) (j : Nat) (hj : j < vs.length) : ∃ ad, A = some ad ∧ w.cell? (ad.add j) = some vs[j] := by
  rcases h.2 with ⟨e, h0⟩ | ⟨g, cap, cur, hv, hb, hc, h1, h2, h3⟩
  · omega
  · simp only [Value.slice.injEq] at hv
    refine ⟨⟨g, 0, none⟩, hv.1, ?_⟩
    have h4 : cur.toList[j]? = some vs[j] := by
      have h5 := congrArg (·[j]?) h3.2
      simp only [Nat.mul_one, List.getElem?_take_of_lt hj, List.getElem?_eq_getElem hj] at h5
      exact h5
    rw [Addr.add_lit, Nat.zero_add]
    rw [Array.getElem?_toList] at h4
    simp [World.cell?, hc, h4]
theorem own_slice {w : World} {base e sz n : Nat} {v : Value} {xs : List Value} (h : w.ownsRow base e sz v n xs) : ∃ A c, v = .slice A n c := by
  rcases h.2 with ⟨rfl, rfl⟩ | ⟨g, cap, cur, rfl, _⟩
  · exact ⟨_, _, rfl⟩
  · exact ⟨_, _, rfl⟩
theorem Only.own {K : Nat → Prop} {m : Nat} {W W' : World} (h : Only K m W W') (hm : IsMap W m) {base e sz n : Nat} {v : Value} {xs : List Value} (hR : W.ownsRow base e sz v n xs) (ht : e ≠ 41) : W'.ownsRow base e sz v n xs :=
  own_move hR (fun k hk => by
    obtain ⟨cells, hc⟩ := own_typed hR k hk
    rw [hc]
    exact h.block hm hc ht)
def AddR11.T : Bool × List (List Nat × List Nat) := (true, [([], []), ([0], [0]), ([1], [1]), ([2], [2]), ([], []), ([], []), ([5], [5]), ([6], [6]), ([7], [7]), ([], []), ([8, 9], [8, 9]), ([], []), ([11], [11]), ([12], [12]), ([13], [13]), ([14], [14]), ([], []), ([], []), ([16, 17], [16, 17]), ([18], [18]), ([15, 19], [15, 19]), ([20], [20]), ([10, 21], [10, 21]), ([3, 4, 22, 22, 0, 1, 2, 3, 4, 5, 6, 7, 8, 9, 10, 11, 12, 13, 14, 15, 16, 17, 18, 19, 20, 21, 22], [3, 4, 22])])
def AddR11.B : List Nat := [0, 1, 3, 7, 0, 0, 32, 96, 224, 0, 992, 0, 2048, 6144, 14336, 30720, 0, 0, 196608, 458752, 1046528, 2095104, 4194272, 8388607]
theorem AddR11.tab : rtab .any (opsOf Tryz.f9 11) = AddR11.T := by kernel_rfl
theorem AddR11.bits : waitsOk AddR11.T.2 AddR11.B = true := by kernel_rfl
def AddR13.T : Bool × List (List Nat × List Nat) := (true, [([], []), ([], []), ([1], [1]), ([2], [2]), ([3], [3]), ([], []), ([5], [5]), ([6], [6]), ([4, 7, 6], [4, 7]), ([0, 0, 1, 2, 3, 4, 5, 6, 7, 8], [0]), ([9, 0, 1, 2, 3, 4, 5, 6, 7, 8], [9]), ([10, 8, 8, 0, 1, 2, 3, 4, 5, 6, 7, 8], [8, 10])])
def AddR13.B : List Nat := [0, 0, 2, 6, 14, 0, 32, 96, 254, 511, 1023, 2047]
theorem AddR13.tab : rtab .any (opsOf Tryz.f9 13) = AddR13.T := by kernel_rfl
theorem AddR13.bits : waitsOk AddR13.T.2 AddR13.B = true := by kernel_rfl
def AddR14.T : Bool × List (List Nat × List Nat) := (true, [([], []), ([0], [0]), ([1], [1]), ([2], [2]), ([], []), ([4], [4]), ([5], [5]), ([3, 6], [3, 6]), ([0, 0, 1, 2, 3, 4, 5, 6, 7], [0]), ([8, 0, 1, 2, 3, 4, 5, 6, 7], [8]), ([9, 7, 6, 0, 1, 2, 3, 4, 5, 6, 7], [7, 9])])
def AddR14.B : List Nat := [0, 1, 3, 7, 0, 16, 48, 127, 255, 511, 1023]
theorem AddR14.tab : rtab .any (opsOf Tryz.f9 14) = AddR14.T := by kernel_rfl
theorem AddR14.bits : waitsOk AddR14.T.2 AddR14.B = true := by kernel_rfl
set_option maxHeartbeats 2000000 in
set_option maxRecDepth 100000 in
theorem add_any (K : Nat → Prop) (b : Nat) (L : List Ent) (last : Int) (id seq : Int) (A : Option Addr) (c : Nat) (l : List S50) (w : World) (hB : Buf K b L last w) (hC : Kd.F k50 w K A l.length l) (hc : l.length ≤ c) (hl : docOk l)
    (hs : ∀ f ∈ l, f.f0.size ≤ 9223372036854775807) (hok : mayN l = 0 → okE ⟨⟨id, l⟩, seq⟩) (hL : L.length < 1000) (hseq : -9223372036854775808 ≤ seq ∧ seq ≤ 9223372036854775807) (R : Int × List Ent × Int) (hR : addB L last ⟨⟨id, l⟩, seq⟩ (mayN l) = R) :
    Calls Tryz.prog 9 #[.pointer (some ⟨b, 0, none⟩), .agg #[.int .i64 id, .slice A l.length c, .int .i64 seq]] w fun e w' => e = .returned (.int .i64 R.1) ∧ Buf K b R.2.1 R.2.2 w' ∧ Moves (fun k => ¬ K k) w w' := by
  obtain ⟨m, N, v, hB⟩ := hB
  obtain ⟨Av, cv, rfl⟩ := Kd.R_slice hB.list
  have HB := Lib.hid hB
  have HC := Lib.hid hC
  have HOK := Lib.hid hok
  have HSQ := Lib.hid hseq
  have HR := Lib.hid hR
  clear hB hC hok hseq hR
  go_enter Tryz.func9, Tryz.ntmps9
  go_upto_region 1 with fail
  obtain ⟨w1, hw1⟩ : ∃ w1, w1 = w.alloc (.cells #[.int .i64 id, .slice A l.length c, .int .i64 seq] 33) := ⟨_, rfl⟩
  rw [← hw1]
  have hb1 : Below w.heap.size w w1 := by rw [hw1]; exact below_alloc (Below.refl _ _) _ (Nat.le_refl _)
  have hz1 : w1.heap.size = w.heap.size + 1 := by rw [hw1]; simp
  have hbe : w1.heap[w.heap.size]? = some (.cells #[.int .i64 id, .slice A l.length c, .int .i64 seq] 33 (0, 0)) := by rw [hw1]; exact heap_alloc_new w _
  clear hw1
  have c0 : w1.cell? ⟨w.heap.size, 0, none⟩ = some (.int .i64 id) := (blk_cell hbe 0).trans rfl
  have c1 : w1.cell? ⟨w.heap.size, 1, none⟩ = some (.slice A l.length c) := (blk_cell hbe 1).trans rfl
  have c2 : w1.cell? ⟨w.heap.size, 2, none⟩ = some (.int .i64 seq) := (blk_cell hbe 2).trans rfl
  have hmay := may_any id A c l w1 (Kd.C_below (Kd.F_now HC.out) hb1) hc hl hs
  obtain ⟨f, hf⟩ : ∃ f, f = mayN l := ⟨_, rfl⟩
  have HFF := Lib.hid hf
  rw [← hf] at hmay
  clear hf
  have HMAY := Lib.hid hmay
  clear hmay
  by_cases hf0 : f = 0
  · subst hf0
    have HE := Lib.hid (HOK.out HFF.out.symm)
    go_upto_region 4 with (go_at_call 25; refine HMAY.out.mono ?_; rintro e w2 ⟨rfl, hb2⟩)
    have hb2' : Below w.heap.size w w2 := hb1.trans (hb2.mono hb1.size)
    have hbe2 := (hb2.block _ (by omega)).trans hbe
    have B2 := Lib.hid (HB.out.step hb2'.size (fun k _ hk => hb2'.block k hk))
    have HB2 := Lib.hid hb2'
    clear c0 c1 c2 hbe
    have c0 : w2.cell? ⟨w.heap.size, 0, none⟩ = some (.int .i64 id) := (blk_cell hbe2 0).trans rfl
    have c1 : w2.cell? ⟨w.heap.size, 1, none⟩ = some (.slice A l.length c) := (blk_cell hbe2 1).trans rfl
    have c2 : w2.cell? ⟨w.heap.size, 2, none⟩ = some (.int .i64 seq) := (blk_cell hbe2 2).trans rfl
    have c3 := B2.out.cells.2.2.2
    have HBE2 := Lib.hid hbe2
    clear hb2 hb2' hb1 hbe2
    by_cases hle : seq ≤ last
    · have hd : decide (seq ≤ last) = true := decide_eq_true hle
      have HA := Lib.hid (show addB L last ⟨⟨id, l⟩, seq⟩ 0 = (12, L, last) by unfold addB; rw [if_pos rfl, if_pos hle])
      clear hle
      go_quiet (fail)
      go_wp2_with fail
      go_ret
      have hR := HR.out.symm.trans ((congrArg _ HFF.out.symm).trans HA.out)
      exact ⟨by rw [hR]; rfl, by rw [hR]; exact ⟨m, N, _, B2.out.step (Nat.le_refl _) (fun _ _ _ => rfl)⟩, Moves.of_below (pw_below_drewN HB2.out _)⟩
    · have hd : decide (seq ≤ last) = false := decide_eq_false hle
      have HA := Lib.hid (show addB L last ⟨⟨id, l⟩, seq⟩ 0 = (0, L ++ [⟨⟨id, l⟩, seq⟩], seq) by unfold addB; rw [if_pos rfl, if_neg hle])
      clear hle
      go_quiet (fail)
      obtain ⟨w3, hw3⟩ : ∃ x, x = w2.drewN nq := ⟨_, rfl⟩
      rw [← hw3]
      have HB3 := Lib.hid (show Below w.heap.size w w3 by rw [hw3]; exact pw_below_drewN HB2.out _)
      have B3 := Lib.hid (show BufF K w3 b m N (.slice Av L.length cv) L last by rw [hw3]; exact B2.out.step (Nat.le_refl _) (fun _ _ _ => rfl))
      have HBE3 := Lib.hid (show w3.heap[w.heap.size]? = some (.cells #[.int .i64 id, .slice A l.length c, .int .i64 seq] 33 (0, 0)) by rw [hw3]; exact HBE2.out)
      clear c0 c1 c2 c3 hw3 HBE2 HB2 B2
      have c0 : w3.cell? ⟨w.heap.size, 0, none⟩ = some (.int .i64 id) := (blk_cell HBE3.out 0).trans rfl
      have c1 : w3.cell? ⟨w.heap.size, 1, none⟩ = some (.slice A l.length c) := (blk_cell HBE3.out 1).trans rfl
      have hin := invert_raw id A c l w3 (Kd.C_below (Kd.F_now HC.out) HB3.out) hl HE.out.2.1
      obtain ⟨T, hT⟩ : ∃ T, T = termsOf (occ l) := ⟨_, rfl⟩
      rw [← hT] at hin
      have HT := Lib.hid hT
      clear hT
      have HIN := Lib.hid hin
      clear hin
      go_upto_region 8 with (go_at_call 26; refine HIN.out.mono ?_; rintro e w4 ⟨tv, uv, vs, rfl, r1, r2, r3, r4, r5, hb4⟩; obtain ⟨At, ct, rfl⟩ := own_slice r1; obtain ⟨Au, cu, rfl⟩ := own_slice r2)
      clear HIN c0 c1 r5
      have hb4' := HB3.out.trans (hb4.mono HB3.out.size)
      have HB4 := Lib.hid hb4'
      have B4 := Lib.hid (B3.out.step hb4.size (fun k _ hk => hb4.block k hk))
      have hw3 := HB3.out.size
      have HBE4 := Lib.hid ((hb4.block _ (Array.getElem?_eq_some_iff.1 HBE3.out).1).trans HBE3.out)
      have R1 := Lib.hid (terms_R r1)
      have R2 := Lib.hid r2
      have R3 := Lib.hid r3
      have R4 := Lib.hid r4
      have HM4 := Lib.hid (Only.ismap B4.out.maps)
      have TL := Lib.hid (show T.length ≤ 500 by rw [HT.out]; exact Nat.le_trans (termsOf_len' _) HE.out.2.2)
      clear B3 HB3 HBE3 hb4 hb4' r1 r2 r3 r4
      go_loopw [32] (fun v32 wr => ∃ j : Nat, v32 = .int .i64 (j : Int) ∧ j ≤ T.length ∧ MapsAt K m (N + j) (fun s => posts L s ++ docPosts L.length l (T.take j) s) wr ∧ Only K m w4 wr) (fun v32 _ => T.length - (intOf v32).toNat)
      case atStart => exact ⟨0, rfl, by omega, B4.out.maps.same (fun s => by simp [docPosts]), Only.refl _ _ _⟩
      case round =>
        obtain ⟨j, rfl, hj, hmaps, hon⟩ := hrel
        obtain ⟨W0, hW0⟩ : ∃ W, W = wr := ⟨_, rfl⟩
        rw [← hW0] at hmaps hon ⊢
        clear hW0 wr
        have HMA := Lib.hid hmaps
        have HON := Lib.hid hon
        have htl := TL.out
        clear hmaps hon
        by_cases hlt : j < T.length
        · have g1 : (j : Int) < (T.length : Int) := by omega
          have d1 : decide ((j : Int) < (T.length : Int)) = true := decide_eq_true g1
          have g0 : decide ((0 : Int) ≤ (j : Int)) = true := decide_eq_true (by omega)
          have hjv : j < vs.length := by rw [R3.out]; exact hlt
          obtain ⟨ad, rfl, k0, k1⟩ := tm_at (HON.out.row HM4.out R1.out (by decide)) j hlt
          obtain ⟨av, rfl, k2⟩ := val_at (HON.out.own HM4.out R2.out (by decide)) j hjv
          have k3 := HON.out.own HM4.out (R4.out j hlt hjv) (by decide)
          have hty : Tiny T[j] := by
            have hm : T[j] ∈ termsOf (occ l) := by rw [← HT.out]; exact List.getElem_mem hlt
            obtain ⟨o, ho, e⟩ := (mem_termsOf _ _).1 hm
            rw [← e]
            exact (occ_tiny hl HE.out.2.1 ho).1
          have hks : (keyS T[j]).size ≤ 1000000000 := by
            have h1 := congrArg List.length (keyS_data T[j])
            unfold keyB at h1
            simp only [List.length_append, List.length_cons, List.length_nil, Array.length_toList] at h1
            have := hty.1
            have := hty.2
            have e1 : ∀ q : ByteArray, q.data.size = q.size := fun _ => rfl
            rw [e1, e1, e1] at h1
            omega
          have hdp := docPosts_take L.length l T j hlt
          obtain ⟨t, ht⟩ : ∃ t, t = T[j] := ⟨_, rfl⟩
          obtain ⟨pv, hpv⟩ : ∃ pv, pv = vs[j] := ⟨_, rfl⟩
          rw [← ht] at k0 k1 k3 hty hks hdp
          rw [← hpv] at k2 k3
          obtain ⟨ta, tb⟩ := t
          obtain ⟨Ap, cp, hpe⟩ := own_slice k3
          rw [hpe] at k2 k3
          have HVJ := Lib.hid (hpv.symm.trans hpe)
          have K3 := Lib.hid k3
          have HDP := Lib.hid hdp
          have HKS := Lib.hid hks
          have HTY := Lib.hid hty
          clear ht hpv hpe k3 hdp hks hty
          have g3 : decide ((j : Int) < (vs.length : Int)) = true := decide_eq_true (by omega)
          have HLT := Lib.hid hlt
          clear hlt
          have hcell := (HON.out.block HM4.out B4.out.box (by decide))
          have HCL := Lib.hid hcell
          clear hcell
          go_upto_region 11 with (go_at_call 27; refine (key_any (ta, tb) _ HTY.out).mono ?_; rintro e w5 ⟨rfl, rfl⟩)
          obtain ⟨W, hW⟩ : ∃ W, W = (W0.alloc (.cells #[.string ta, .string tb] 70)).alloc (.cells #[.string ta, .string tb] 70) := ⟨_, rfl⟩
          rw [← hW]
          have hbW : Below W0.heap.size W0 W := by rw [hW]; exact below_alloc (below_alloc (Below.refl _ _) _ (Nat.le_refl _)) _ (by simp)
          clear hW
          have hb0 := (hbW.block b (Array.getElem?_eq_some_iff.1 HCL.out).1).trans HCL.out
          have hz4 := HB4.out.size
          have hz0 := HON.out.mv.size
          have hzW := hbW.size
          have hklt : ∀ k, K k → k < W.heap.size := fun k q => by have := B4.out.klt k q; omega
          have hpr : Kd.R (Kd.int .i64) 3 W 0 (fun k => ¬ K k) (.slice Ap (placesIn (occ l) (ta, tb)).length cp) (placesIn (occ l) (ta, tb)) :=
            Kd.R_lower (Kd.R_of_own (enc := Value.int .i64) (pw_own_below K3.out hbW) (fun k hk q => by have h1 := own_base K3.out k hk; have h2 := HB.out.klt k q; omega)) (Nat.zero_le _)
          have hpl : (posts L (keyS (ta, tb)) ++ docPosts L.length l (T.take j) (keyS (ta, tb))).length ≤ 1000000000 := by
            have h1 := posts_len B4.out.okl.2 (keyS (ta, tb))
            have h2 := docPosts_len L.length l (T.take j) (keyS (ta, tb))
            have h3 : (T.take j).length ≤ T.length := by rw [List.length_take]; exact Nat.min_le_right _ _
            rw [List.length_append]; omega
          obtain ⟨v0, v1, W4, W5, ST⟩ := maps_step (W := W.drew) (HMA.out.step (fun k _ hk => hbW.block k hk)) hklt (keyS (ta, tb)) HKS.out ⟨(L.length : Int), placesIn (occ l) (ta, tb)⟩ (.slice Ap (placesIn (occ l) (ta, tb)).length cp) hpr hpl
          obtain ⟨WD, hWD⟩ : ∃ x, x = W.drew := ⟨_, rfl⟩
          have hbD : Below W0.heap.size W0 WD := by rw [hWD]; exact below_drew1 hbW
          rw [← hWD] at ST
          have hOW : Only K m W0 WD := Only.of_below hbD
          have hmW : IsMap WD m := Only.ismap (HMA.out.step (W' := WD) (fun k _ hk => hbD.block k hk))
          have hbDb := (hbD.block b (Array.getElem?_eq_some_iff.1 HCL.out).1).trans HCL.out
          have hb4c := ST.only4.block hmW hbDb (by decide)
          have y0 : WD.cell? ⟨b, 0, none⟩ = some (.slice Av L.length cv) := (blk_cell hbDb 0).trans rfl
          have y1 : WD.cell? ⟨b, 1, none⟩ = some (.map (some m)) := (blk_cell hbDb 1).trans rfl
          have y3 := cell_stay2 hbD k2
          obtain ⟨WL, hWL⟩ : ∃ x, x = WD.alloc (.cells #[.int .i64 (L.length : Int), .slice Ap (placesIn (occ l) (ta, tb)).length cp] 41) := ⟨_, rfl⟩
          have hbL : Below WD.heap.size WD WL := by rw [hWL]; exact below_alloc (Below.refl _ _) _ (Nat.le_refl _)
          have z0 := cell_stay2 hbL y0
          have z1 := cell_stay2 hbL y1
          have z3 := cell_stay2 hbL y3
          have x0 : W4.cell? ⟨b, 0, none⟩ = some (.slice Av L.length cv) := (blk_cell hb4c 0).trans rfl
          have x1 : W4.cell? ⟨b, 1, none⟩ = some (.map (some m)) := (blk_cell hb4c 1).trans rfl
          have x3 : W4.cell? (av.add j) = some (.slice Ap (placesIn (occ l) (ta, tb)).length cp) := by
            obtain ⟨a', e', h'⟩ := val_at (ST.only4.own hmW (hOW.own (Only.ismap HMA.out) (HON.out.own HM4.out R2.out (by decide)) (by decide)) (by decide)) j (by rw [R3.out]; exact HLT.out)
            cases e'
            exact h'.trans (congrArg some HVJ.out)
          have q0 := ST.look
          have q1 := ST.look1
          have q2 := ST.look4
          rw [← hWL] at q1
          have y6 := ST.upd
          have HMN := Lib.hid ST.maps
          have HO5 := Lib.hid ((HON.out.trans' hOW).trans' ST.only5)
          have HAP := Lib.hid (hWL ▸ ST.app)
          have HWL := Lib.hid hWL
          have HWD := Lib.hid hWD
          clear ST hOW hmW hb4c hb0 hpl hpr hklt hz4 hz0 hzW hbW k0 k1 k2 HMA HON K3 hWD hWL hbDb hbD hbL
          refine start_ (n := 24) (S := fun w' => (w'.cell? ⟨b, 1, none⟩ = some (.map (some m))) ∧ (w'.cell? ⟨b, 0, none⟩ = some (.slice Av L.length cv)) ∧ (w'.cell? (av.add j) = some (.slice Ap (placesIn (occ l) (ta, tb)).length cp)) ∧ ((Instr.lookup 61 (.map (some m)) (.string (keyS (ta, tb))) false).run Tryz.prog w' = .ok v0 w')) (ds := [23]) #[false, false, false, false, false, false, false, false, false, false, false, false, false, false, false, false, false, false, false, false, false, false, false, false] (by kernel_rfl) rfl rfl (by rw [← HWD.out]; exact ⟨y1, y0, y3, q0⟩) (fun hHeld => ?_); refine with_tabW AddR11.tab AddR11.bits (fun HT_ HW_ => ?_)
          refine pure_ (i := 0) (N := some 39) (v := ?_) (a' := ?_) #[true, false, false, false, false, false, false, false, false, false, false, false, false, false, false, false, false, false, false, false, false, false, false, false] rfl rfl (any_of HT_.out (by kernel_rfl)) (fun _ _ _ h => h) (Or.inl ⟨by rfl, ?_⟩) ?_ ?_
          rotate_left
          · intro w'
            go_simp
            with_reducible rfl
          rotate_left
          · simp only [Act.put, List.setIfInBounds_toArray, List.set_cons_zero, List.set_cons_succ, i64_w, i32_w]
            rfl
          refine pure_ (i := 1) (N := some 40) (v := ?_) (a' := ?_) #[true, true, false, false, false, false, false, false, false, false, false, false, false, false, false, false, false, false, false, false, false, false, false, false] rfl rfl (any_of HT_.out (by kernel_rfl)) (fun _ _ _ h => h) (Or.inl ⟨by rfl, ?_⟩) ?_ ?_
          rotate_left
          · intro w'
            go_simp
            with_reducible rfl
          rotate_left
          · simp only [Act.put, List.setIfInBounds_toArray, List.set_cons_zero, List.set_cons_succ, i64_w, i32_w]
            rfl
          refine pure_ (i := 2) (N := some 41) (v := ?_) (a' := ?_) #[true, true, true, false, false, false, false, false, false, false, false, false, false, false, false, false, false, false, false, false, false, false, false, false] rfl rfl (any_of HT_.out (by kernel_rfl)) (fun _ _ _ h => h) (Or.inl ⟨by rfl, ?_⟩) ?_ ?_
          rotate_left
          · intro w'
            go_simp
            with_reducible rfl
          rotate_left
          · simp only [Act.put, List.setIfInBounds_toArray, List.set_cons_zero, List.set_cons_succ, i64_w, i32_w]
            rfl
          refine pure_ (i := 4) (N := some 43) (v := ?_) (a' := ?_) #[true, true, true, false, true, false, false, false, false, false, false, false, false, false, false, false, false, false, false, false, false, false, false, false] rfl rfl (any_of HT_.out (by kernel_rfl)) (fun _ _ _ h => h) (Or.inl ⟨by rfl, ?_⟩) ?_ ?_
          rotate_left
          · intro w'
            go_simp
            with_reducible rfl
          rotate_left
          · simp only [Act.put, List.setIfInBounds_toArray, List.set_cons_zero, List.set_cons_succ, i64_w, i32_w]
            rfl
          refine pure_ (i := 5) (N := some 44) (v := ?_) (a' := ?_) #[true, true, true, false, true, true, false, false, false, false, false, false, false, false, false, false, false, false, false, false, false, false, false, false] rfl rfl (any_of HT_.out (by kernel_rfl)) (fun _ _ _ h => h) (Or.inl ⟨by rfl, ?_⟩) ?_ ?_
          rotate_left
          · intro w'
            go_simp
            with_reducible rfl
          rotate_left
          · simp only [Act.put, List.setIfInBounds_toArray, List.set_cons_zero, List.set_cons_succ, i64_w, i32_w]
            rfl
          refine pure_ (i := 6) (N := some 45) (v := ?_) (a' := ?_) #[true, true, true, false, true, true, true, false, false, false, false, false, false, false, false, false, false, false, false, false, false, false, false, false] rfl rfl (any_of HT_.out (by kernel_rfl)) (fun _ _ _ h => h) (Or.inl ⟨by rfl, ?_⟩) ?_ ?_
          rotate_left
          · intro w'
            go_simp
            with_reducible rfl
          rotate_left
          · simp only [Act.put, List.setIfInBounds_toArray, List.set_cons_zero, List.set_cons_succ, i64_w, i32_w]
            rfl
          refine pure_ (i := 7) (N := some 46) (v := ?_) (a' := ?_) #[true, true, true, false, true, true, true, true, false, false, false, false, false, false, false, false, false, false, false, false, false, false, false, false] rfl rfl (any_of HT_.out (by kernel_rfl)) (fun _ _ _ h => h) (Or.inl ⟨by rfl, ?_⟩) ?_ ?_
          rotate_left
          · intro w'
            go_simp
            with_reducible rfl
          rotate_left
          · simp only [Act.put, List.setIfInBounds_toArray, List.set_cons_zero, List.set_cons_succ, i64_w, i32_w]
            rfl
          refine pure_ (i := 9) (N := some 48) (v := ?_) (a' := ?_) #[true, true, true, false, true, true, true, true, false, true, false, false, false, false, false, false, false, false, false, false, false, false, false, false] rfl rfl (any_of HT_.out (by kernel_rfl)) (fun _ _ _ h => h) (Or.inl ⟨by rfl, ?_⟩) ?_ ?_
          rotate_left
          · intro w'
            go_simp
            with_reducible rfl
          rotate_left
          · simp only [Act.put, List.setIfInBounds_toArray, List.set_cons_zero, List.set_cons_succ, i64_w, i32_w]
            rfl
          refine pure_ (i := 11) (N := some 50) (v := ?_) (a' := ?_) #[true, true, true, false, true, true, true, true, false, true, false, true, false, false, false, false, false, false, false, false, false, false, false, false] rfl rfl (any_of HT_.out (by kernel_rfl)) (fun _ _ _ h => h) (Or.inl ⟨by rfl, ?_⟩) ?_ ?_
          rotate_left
          · intro w'
            go_simp
            with_reducible rfl
          rotate_left
          · simp only [Act.put, List.setIfInBounds_toArray, List.set_cons_zero, List.set_cons_succ, i64_w, i32_w]
            rfl
          refine pure_ (i := 12) (N := some 51) (v := ?_) (a' := ?_) #[true, true, true, false, true, true, true, true, false, true, false, true, true, false, false, false, false, false, false, false, false, false, false, false] rfl rfl (any_of HT_.out (by kernel_rfl)) (fun _ _ _ h => h) (Or.inl ⟨by rfl, ?_⟩) ?_ ?_
          rotate_left
          · intro w'
            go_simp
            with_reducible rfl
          rotate_left
          · simp only [Act.put, List.setIfInBounds_toArray, List.set_cons_zero, List.set_cons_succ, i64_w, i32_w]
            rfl
          refine pure_ (i := 13) (N := some 52) (v := ?_) (a' := ?_) #[true, true, true, false, true, true, true, true, false, true, false, true, true, true, false, false, false, false, false, false, false, false, false, false] rfl rfl (any_of HT_.out (by kernel_rfl)) (fun _ _ _ h => h) (Or.inl ⟨by rfl, ?_⟩) ?_ ?_
          rotate_left
          · intro w'
            go_simp
            with_reducible rfl
          rotate_left
          · simp only [Act.put, List.setIfInBounds_toArray, List.set_cons_zero, List.set_cons_succ, i64_w, i32_w]
            rfl
          refine pure_ (i := 16) (N := some 55) (v := ?_) (a' := ?_) #[true, true, true, false, true, true, true, true, false, true, false, true, true, true, false, false, true, false, false, false, false, false, false, false] rfl rfl (any_of HT_.out (by kernel_rfl)) (fun _ _ _ h => h) (Or.inl ⟨by rfl, ?_⟩) ?_ ?_
          rotate_left
          · intro w'
            go_simp
            with_reducible rfl
          rotate_left
          · simp only [Act.put, List.setIfInBounds_toArray, List.set_cons_zero, List.set_cons_succ, i64_w, i32_w]
            rfl
          refine pure_ (i := 17) (N := some 56) (v := ?_) (a' := ?_) #[true, true, true, false, true, true, true, true, false, true, false, true, true, true, false, false, true, true, false, false, false, false, false, false] rfl rfl (any_of HT_.out (by kernel_rfl)) (fun _ _ _ h => h) (Or.inl ⟨by rfl, ?_⟩) ?_ ?_
          rotate_left
          · intro w'
            go_simp
            with_reducible rfl
          rotate_left
          · simp only [Act.put, List.setIfInBounds_toArray, List.set_cons_zero, List.set_cons_succ, i64_w, i32_w]
            rfl
          refine pure_ (i := 18) (N := some 57) (v := ?_) (a' := ?_) #[true, true, true, false, true, true, true, true, false, true, false, true, true, true, false, false, true, true, true, false, false, false, false, false] rfl rfl (any_of HT_.out (by kernel_rfl)) (fun _ _ _ h => h) (Or.inl ⟨by rfl, ?_⟩) ?_ ?_
          rotate_left
          · intro w'
            go_simp
            with_reducible rfl
          rotate_left
          · simp only [Act.put, List.setIfInBounds_toArray, List.set_cons_zero, List.set_cons_succ, i64_w, i32_w]
            rfl
          refine take_ (i := 3) (N := some 42) (v := ?_) (a' := ?_) #[true, true, true, true, true, true, true, true, false, true, false, true, true, true, false, false, true, true, true, false, false, false, false, false] rfl rfl (take_ofW HT_.out HW_.out (by kernel_rfl)) (fun _ _ _ h => h) (Or.inl ⟨by rfl, ?_⟩) hHeld ?_ ?_
          rotate_left
          · rintro w' ⟨s0, s1, s2, s3⟩
            go_simp
            with_reducible rfl
          rotate_left
          · simp only [Act.put, List.setIfInBounds_toArray, List.set_cons_zero, List.set_cons_succ, i64_w, i32_w]
            rfl
          refine take_ (i := 8) (N := some 47) (v := ?_) (a' := ?_) #[true, true, true, true, true, true, true, true, true, true, false, true, true, true, false, false, true, true, true, false, false, false, false, false] rfl rfl (take_ofW HT_.out HW_.out (by kernel_rfl)) (fun _ _ _ h => h) (Or.inl ⟨by rfl, ?_⟩) hHeld ?_ ?_
          rotate_left
          · rintro w' ⟨s0, s1, s2, s3⟩
            go_simp
            with_reducible rfl
          rotate_left
          · simp only [Act.put, List.setIfInBounds_toArray, List.set_cons_zero, List.set_cons_succ, i64_w, i32_w]
            rfl
          refine take_ (i := 10) (N := some 49) (v := ?_) (a' := ?_) #[true, true, true, true, true, true, true, true, true, true, true, true, true, true, false, false, true, true, true, false, false, false, false, false] rfl rfl (take_ofW HT_.out HW_.out (by kernel_rfl)) (fun _ _ _ h => h) (Or.inl ⟨by rfl, ?_⟩) hHeld ?_ ?_
          rotate_left
          · rintro w' ⟨s0, s1, s2, s3⟩
            go_simp
            with_reducible rfl
          rotate_left
          · simp only [Act.put, List.setIfInBounds_toArray, List.set_cons_zero, List.set_cons_succ, i64_w, i32_w]
            rfl
          refine take_ (i := 14) (N := some 53) (v := ?_) (a' := ?_) #[true, true, true, true, true, true, true, true, true, true, true, true, true, true, true, false, true, true, true, false, false, false, false, false] rfl rfl (take_ofW HT_.out HW_.out (by kernel_rfl)) (fun _ _ _ h => h) (Or.inl ⟨by rfl, ?_⟩) hHeld ?_ ?_
          rotate_left
          · rintro w' ⟨s0, s1, s2, s3⟩
            go_simp
            with_reducible rfl
          rotate_left
          · simp only [Act.put, List.setIfInBounds_toArray, List.set_cons_zero, List.set_cons_succ, i64_w, i32_w]
            rfl
          refine pure_ (i := 15) (N := some 54) (v := ?_) (a' := ?_) #[true, true, true, true, true, true, true, true, true, true, true, true, true, true, true, true, true, true, true, false, false, false, false, false] rfl rfl (any_of HT_.out (by kernel_rfl)) (fun _ _ _ h => h) (Or.inl ⟨by rfl, ?_⟩) ?_ ?_
          rotate_left
          · intro w'
            go_simp
            with_reducible rfl
          rotate_left
          · simp only [Act.put, List.setIfInBounds_toArray, List.set_cons_zero, List.set_cons_succ, i64_w, i32_w]
            rfl
          refine take_ (i := 19) (N := some 58) (v := ?_) (a' := ?_) #[true, true, true, true, true, true, true, true, true, true, true, true, true, true, true, true, true, true, true, true, false, false, false, false] rfl rfl (take_ofW HT_.out HW_.out (by kernel_rfl)) (fun _ _ _ h => h) (Or.inl ⟨by rfl, ?_⟩) hHeld ?_ ?_
          rotate_left
          · rintro w' ⟨s0, s1, s2, s3⟩
            go_simp
            with_reducible rfl
          rotate_left
          · simp only [Act.put, List.setIfInBounds_toArray, List.set_cons_zero, List.set_cons_succ, i64_w, i32_w]
            rfl
          refine pure_ (i := 20) (N := some 59) (v := ?_) (a' := ?_) #[true, true, true, true, true, true, true, true, true, true, true, true, true, true, true, true, true, true, true, true, true, false, false, false] rfl rfl (any_of HT_.out (by kernel_rfl)) (fun _ _ _ h => h) (Or.inl ⟨by rfl, ?_⟩) ?_ ?_
          rotate_left
          · intro w'
            go_simp
            with_reducible rfl
          rotate_left
          · simp only [Act.put, List.setIfInBounds_toArray, List.set_cons_zero, List.set_cons_succ, i64_w, i32_w]
            rfl
          refine one_ (i := 21) (N := some 60) #[true, true, true, true, true, true, true, true, true, true, true, true, true, true, true, true, true, true, true, true, true, true, false, false] rfl rfl (one_of HT_.out (by kernel_rfl)) (by decide) (fun KK hKK => ?_)
          rw [← HWD.out] at hHeld ⊢
          refine value_ (w1 := WL) (v := .slice (some ⟨WD.heap.size, 0, none⟩) 1 1) (by rfl) rfl ?_ ?_
          · rw [HWL.out]
            go_simp
          refine hKK.out _ _ ⟨z1, z0, z3, q1⟩ (fun hHeld => ?_)
          clear hKK KK
          refine norm_ (a' := ?_) ?_ ?_
          rotate_left
          · show Act.put _ (some 60) _ = _
            simp only [Act.put, List.setIfInBounds_toArray, List.set_cons_zero, List.set_cons_succ, i64_w, i32_w]
            rfl
          refine one_ (i := 22) (N := some 61) #[true, true, true, true, true, true, true, true, true, true, true, true, true, true, true, true, true, true, true, true, true, true, true, false] rfl rfl (one_of HT_.out (by kernel_rfl)) (by decide) (fun KK hKK => ?_)
          refine step_append_run rfl (.tmp 49) (.tmp 60) 36 rfl _ _ _ rfl rfl (HAP.out _) ?_
          refine hKK.out _ _ ⟨x1, x0, x3, q2⟩ (fun hHeld => ?_)
          clear hKK KK
          refine norm_ (a' := ?_) ?_ ?_
          rotate_left
          · show Act.put _ (some 61) _ = _
            simp only [Act.put, List.setIfInBounds_toArray, List.set_cons_zero, List.set_cons_succ, i64_w, i32_w]
            rfl
          refine last_ (i := 23) (N := none) #[true, true, true, true, true, true, true, true, true, true, true, true, true, true, true, true, true, true, true, true, true, true, true, true] rfl rfl (one_of HT_.out (by kernel_rfl)) (by decide) (fun KK hKK => ?_)
          refine skip_ (w1 := ?_) (by rfl) rfl ?_ ?_
          rotate_left
          · go_simp
            rfl
          refine hKK.out _ _ ?_
          clear hKK KK
          refine done_ (done_of HT_.out (by kernel_rfl)) ?_
          have wj : wrap64 ((j : Int) + 1) = ((j + 1 : Nat) : Int) := wrap_nat j (by have := HLT.out; omega)
          have wk : IntKind.i64.wrap ((j : Int) + 1) = ((j + 1 : Nat) : Int) := by rw [i64_w]; exact wj
          go_wp2_with fail
          go_roundw
          case rel =>
            have h7 := HLT.out
            refine ⟨j + 1, by first | rfl | rw [wj] | rw [wk], by omega, HMN.out.same (fun s => ?_), HO5.out⟩
            rw [HDP.out s, List.append_assoc]
          case measure =>
            have h7 := HLT.out
            simp only [intOf]
            omega
        · obtain rfl : j = T.length := by omega
          have d1 : decide ((T.length : Int) < (T.length : Int)) = false := decide_eq_false (by omega)
          go_upto_region 13 with fail
          clear d1
          have P0 : PartsF K W0 b m (N + T.length) (posts (L ++ [⟨⟨id, l⟩, seq⟩])) (.slice Av L.length cv) L (weigh L : Int) last :=
            ⟨HON.out.block HM4.out B4.out.box (by decide), B4.out.kb, fun k q => by have := HON.out.mv.size; have := B4.out.klt k q; omega, HMA.out.same (fun s => by rw [posts_snoc, List.take_length, HT.out]), HON.out.row HM4.out B4.out.list (by decide)⟩
          have E0 := HON.out.block HM4.out HBE4.out (by decide)
          have hKW : ∀ k, K k → k < w.heap.size → W0.heap[k]? = w.heap[k]? := fun k q hk => (HON.out.mv.block k (by have := HB4.out.size; omega) (fun z => z q)).trans (HB4.out.block k hk)
          have hM0 : Moves (fun k => ¬ K k) w W0 := (Moves.of_below HB4.out).trans' HON.out.mv
          have hobl : ∀ k, (Value.slice Av L.length cv).ownBlock = some k → k < w.heap.size := by
            obtain ⟨_, inner, ho, _⟩ := HB.out.list
            exact fun k hk => own_lt ho k hk
          obtain ⟨WD, hWD⟩ : ∃ x, x = W0.drew := ⟨_, rfl⟩
          have hbD : Below W0.heap.size W0 WD := by rw [hWD]; exact below_drew1 (Below.refl _ _)
          have PD := Lib.hid (P0.below hbD)
          have ED := Lib.hid ((hbD.block _ (Array.getElem?_eq_some_iff.1 E0).1).trans E0)
          have hszW : w.heap.size ≤ W0.heap.size := hM0.size
          have CD := Lib.hid (Kd.F_step HC.out (W1 := WD) (fun k q hk => (hbD.block k (by omega)).trans (hKW k q hk)))
          have MD := Lib.hid (hM0.trans' (Moves.of_below hbD))
          have OB := Lib.hid hobl
          have EB := Lib.hid (Array.getElem?_eq_some_iff.1 HBE4.out).1
          have HWD := Lib.hid hWD
          have hdc : doc_Clone.f id l = some (id, l) := by
            unfold doc_Clone.f api_Field_71.f
            rw [if_pos (by have := hl.1; omega)]
            rfl
          have hof : buffer_own.f id l seq = some (id, l, seq) := by
            unfold buffer_own.f
            rw [hdc]
            rfl
          have HOF := Lib.hid hof
          clear P0 E0 hKW hM0 hobl hbD hWD hdc hof HMA HON HM4 R1 R2 R3 R4 hszW
          have c0 : WD.cell? ⟨w.heap.size, 0, none⟩ = some (.int .i64 id) := (blk_cell ED.out 0).trans rfl
          have c1 : WD.cell? ⟨w.heap.size, 1, none⟩ = some (.slice A l.length c) := (blk_cell ED.out 1).trans rfl
          have c2 : WD.cell? ⟨w.heap.size, 2, none⟩ = some (.int .i64 seq) := (blk_cell ED.out 2).trans rfl
          have c3 := PD.out.cells.1
          refine start_ (n := 12) (S := fun w' => (w'.cell? ⟨b, 0, none⟩ = some (.slice Av L.length cv)) ∧ (w'.cell? ⟨w.heap.size, 0, none⟩ = some (.int .i64 id)) ∧ (w'.cell? ⟨w.heap.size, 1, none⟩ = some (.slice A l.length c)) ∧ (w'.cell? ⟨w.heap.size, 2, none⟩ = some (.int .i64 seq))) (ds := [11]) #[false, false, false, false, false, false, false, false, false, false, false, false] (by kernel_rfl) rfl rfl (by rw [← HWD.out]; exact ⟨c3, c0, c1, c2⟩) (fun hHeld => ?_); refine with_tabW AddR13.tab AddR13.bits (fun HT_ HW_ => ?_)
          refine pure_ (i := 0) (N := some 63) (v := ?_) (a' := ?_) #[true, false, false, false, false, false, false, false, false, false, false, false] rfl rfl (any_of HT_.out (by kernel_rfl)) (fun _ _ _ h => h) (Or.inl ⟨by rfl, ?_⟩) ?_ ?_
          rotate_left
          · intro w'
            go_simp
            with_reducible rfl
          rotate_left
          · simp only [Act.put, List.setIfInBounds_toArray, List.set_cons_zero, List.set_cons_succ, i64_w, i32_w]
            rfl
          refine pure_ (i := 1) (N := some 64) (v := ?_) (a' := ?_) #[true, true, false, false, false, false, false, false, false, false, false, false] rfl rfl (any_of HT_.out (by kernel_rfl)) (fun _ _ _ h => h) (Or.inl ⟨by rfl, ?_⟩) ?_ ?_
          rotate_left
          · intro w'
            go_simp
            with_reducible rfl
          rotate_left
          · simp only [Act.put, List.setIfInBounds_toArray, List.set_cons_zero, List.set_cons_succ, i64_w, i32_w]
            rfl
          refine pure_ (i := 2) (N := some 65) (v := ?_) (a' := ?_) #[true, true, true, false, false, false, false, false, false, false, false, false] rfl rfl (any_of HT_.out (by kernel_rfl)) (fun _ _ _ h => h) (Or.inl ⟨by rfl, ?_⟩) ?_ ?_
          rotate_left
          · intro w'
            go_simp
            with_reducible rfl
          rotate_left
          · simp only [Act.put, List.setIfInBounds_toArray, List.set_cons_zero, List.set_cons_succ, i64_w, i32_w]
            rfl
          refine pure_ (i := 3) (N := some 66) (v := ?_) (a' := ?_) #[true, true, true, true, false, false, false, false, false, false, false, false] rfl rfl (any_of HT_.out (by kernel_rfl)) (fun _ _ _ h => h) (Or.inl ⟨by rfl, ?_⟩) ?_ ?_
          rotate_left
          · intro w'
            go_simp
            with_reducible rfl
          rotate_left
          · simp only [Act.put, List.setIfInBounds_toArray, List.set_cons_zero, List.set_cons_succ, i64_w, i32_w]
            rfl
          refine take_ (i := 4) (N := some 67) (v := ?_) (a' := ?_) #[true, true, true, true, true, false, false, false, false, false, false, false] rfl rfl (take_ofW HT_.out HW_.out (by kernel_rfl)) (fun _ _ _ h => h) (Or.inl ⟨by rfl, ?_⟩) hHeld ?_ ?_
          rotate_left
          · rintro w' ⟨s0, s1, s2, s3⟩
            go_simp
            with_reducible rfl
          rotate_left
          · simp only [Act.put, List.setIfInBounds_toArray, List.set_cons_zero, List.set_cons_succ, i64_w, i32_w]
            rfl
          refine take_ (i := 5) (N := some 68) (v := ?_) (a' := ?_) #[true, true, true, true, true, true, false, false, false, false, false, false] rfl rfl (take_ofW HT_.out HW_.out (by kernel_rfl)) (fun _ _ _ h => h) (Or.inl ⟨by rfl, ?_⟩) hHeld ?_ ?_
          rotate_left
          · rintro w' ⟨s0, s1, s2, s3⟩
            go_simp
            with_reducible rfl
          rotate_left
          · simp only [Act.put, List.setIfInBounds_toArray, List.set_cons_zero, List.set_cons_succ, i64_w, i32_w]
            rfl
          refine one_ (i := 6) (N := some 69) #[true, true, true, true, true, true, true, false, false, false, false, false] rfl rfl (one_of HT_.out (by kernel_rfl)) (by decide) (fun KK hKK => ?_)
          rw [← HWD.out] at hHeld ⊢
          refine goes_ Tryz.func28 (by kernel_rfl) rfl #[.agg #[.int .i64 id, .slice A l.length c, .int .i64 seq]] (by rfl) rfl rfl (by (try simp only [List.map_toArray, List.map_cons, List.map_nil]); first | done | rfl) ?_
          with_reducible refine (buffer_own.calls id A c l seq id l seq WD (Kd.F_now CD.out) hc HOF.out).mono ?_
          rintro e w5 ⟨pv, rfl, hpv, hb5⟩
          refine ⟨_, rfl, ?_⟩
          obtain ⟨Ap, cp, rfl⟩ := Kd.R_slice hpv
          have P5 := PD.out.below hb5
          have hp5 : Kd.R k50 50 w5 0 (fun k => ¬ K k) (.slice Ap l.length cp) l := Kd.R_lower (Kd.R_mono (Kd.R_bound hpv) (fun k hk q => by have := PD.out.klt k q; have := hk.2.1; omega)) (Nat.zero_le _)
          obtain ⟨v1, W4, ap, lb, ls, P6, lm, lf⟩ := list_step P5 id seq l _ hp5 (by omega)
          obtain ⟨Av1, cv1, hv⟩ := Kd.R_slice P6.list
          rw [List.length_append, List.length_singleton] at hv
          subst hv
          have x0 := cell_stay2 hb5 c0
          have x1 := cell_stay2 hb5 c1
          have x2 := cell_stay2 hb5 c2
          have x3 := cell_stay2 hb5 c3
          have eb5 := (hb5.block _ (Array.getElem?_eq_some_iff.1 ED.out).1).trans ED.out
          have elt := (Array.getElem?_eq_some_iff.1 eb5).1
          have ene : (Value.slice Av L.length cv).ownBlock ≠ some w.heap.size := fun e => by have := OB.out _ e; omega
          have eb4 := (ls _ elt ene).trans eb5
          have hb4b := lb.trans P5.box
          obtain ⟨WL, hWL⟩ : ∃ x, x = w5.alloc (.cells #[.int .i64 id, .slice Ap l.length cp, .int .i64 seq] 33) := ⟨_, rfl⟩
          have hbL : Below w5.heap.size w5 WL := by rw [hWL]; exact below_alloc (Below.refl _ _) _ (Nat.le_refl _)
          have z0 := cell_stay2 hbL x0
          have z1 := cell_stay2 hbL x1
          have z2 := cell_stay2 hbL x2
          have z3 := cell_stay2 hbL x3
          have u0 : W4.cell? ⟨w.heap.size, 0, none⟩ = some (.int .i64 id) := (blk_cell eb4 0).trans rfl
          have u1 : W4.cell? ⟨w.heap.size, 1, none⟩ = some (.slice A l.length c) := (blk_cell eb4 1).trans rfl
          have u2 : W4.cell? ⟨w.heap.size, 2, none⟩ = some (.int .i64 seq) := (blk_cell eb4 2).trans rfl
          have u3 : W4.cell? ⟨b, 0, none⟩ = some (.slice Av L.length cv) := (blk_cell hb4b 0).trans rfl
          have uf : W4.frozen? ⟨b, 0, none⟩ = false := blk_frozen hb4b 0
          have HAP := Lib.hid (hWL ▸ ap)
          have HWL := Lib.hid hWL
          have P7 := Lib.hid P6
          have ED7 := Lib.hid ((lf _ elt (fun e => by have := P5.kb; have h9 := PD.out.box; rw [← e, ED.out] at h9; injection h9 with h9; injection h9 with _ h9 _; revert h9; decide) ene).trans eb5)
          have MD7 := Lib.hid ((MD.out.trans' (Moves.of_below hb5)).trans' lm)
          clear ap hWL P6 lb ls lf lm eb4 eb5 elt ene hb4b hbL P5 hp5 hb5 hpv
          refine hKK.out _ _ ⟨x3, x0, x1, x2⟩ (fun hHeld => ?_)
          clear hKK KK
          refine norm_ (a' := ?_) ?_ ?_
          rotate_left
          · show Act.put _ (some 69) _ = _
            simp only [Act.put, List.setIfInBounds_toArray, List.set_cons_zero, List.set_cons_succ, i64_w, i32_w]
            rfl
          refine one_ (i := 7) (N := some 70) #[true, true, true, true, true, true, true, true, false, false, false, false] rfl rfl (one_of HT_.out (by kernel_rfl)) (by decide) (fun KK hKK => ?_)
          refine value_ (w1 := WL) (v := .slice (some ⟨w5.heap.size, 0, none⟩) 1 1) (by rfl) rfl ?_ ?_
          · rw [HWL.out]
            go_simp
          refine hKK.out _ _ ⟨z3, z0, z1, z2⟩ (fun hHeld => ?_)
          clear hKK KK
          refine norm_ (a' := ?_) ?_ ?_
          rotate_left
          · show Act.put _ (some 70) _ = _
            simp only [Act.put, List.setIfInBounds_toArray, List.set_cons_zero, List.set_cons_succ, i64_w, i32_w]
            rfl
          refine one_ (i := 8) (N := some 71) #[true, true, true, true, true, true, true, true, true, false, false, false] rfl rfl (one_of HT_.out (by kernel_rfl)) (by decide) (fun KK hKK => ?_)
          refine step_append_run rfl (.tmp 67) (.tmp 70) 25 rfl _ _ _ rfl rfl (HAP.out _) ?_
          refine hKK.out _ _ ⟨u3, u0, u1, u2⟩ (fun hHeld => ?_)
          clear hKK KK
          refine norm_ (a' := ?_) ?_ ?_
          rotate_left
          · show Act.put _ (some 71) _ = _
            simp only [Act.put, List.setIfInBounds_toArray, List.set_cons_zero, List.set_cons_succ, i64_w, i32_w]
            rfl
          refine pure_ (i := 9) (N := some 72) (v := ?_) (a' := ?_) #[true, true, true, true, true, true, true, true, true, true, false, false] rfl rfl (any_of HT_.out (by kernel_rfl)) (fun _ _ _ h => h) (Or.inl ⟨by rfl, ?_⟩) ?_ ?_
          rotate_left
          · intro w'
            go_simp
            with_reducible rfl
          rotate_left
          · simp only [Act.put, List.setIfInBounds_toArray, List.set_cons_zero, List.set_cons_succ, i64_w, i32_w]
            rfl
          refine pure_ (i := 10) (N := some 73) (v := ?_) (a' := ?_) #[true, true, true, true, true, true, true, true, true, true, true, false] rfl rfl (any_of HT_.out (by kernel_rfl)) (fun _ _ _ h => h) (Or.inl ⟨by rfl, ?_⟩) ?_ ?_
          rotate_left
          · intro w'
            go_simp
            with_reducible rfl
          rotate_left
          · simp only [Act.put, List.setIfInBounds_toArray, List.set_cons_zero, List.set_cons_succ, i64_w, i32_w]
            rfl
          refine last_ (i := 11) (N := none) #[true, true, true, true, true, true, true, true, true, true, true, true] rfl rfl (one_of HT_.out (by kernel_rfl)) (by decide) (fun KK hKK => ?_)
          refine skip_ (w1 := ?_) (by rfl) rfl ?_ ?_
          rotate_left
          · go_simp
            rfl
          refine hKK.out _ _ ?_
          clear hKK KK
          refine done_ (done_of HT_.out (by kernel_rfl)) ?_
          clear x0 x1 x2 x3 z0 z1 z2 z3 u0 u1 u2 u3 uf c0 c1 c2 c3 HAP HWL hHeld PD ED
          go_upto_region 14 with fail
          obtain ⟨W7, hW7⟩ : ∃ x, x = W4.setCell ⟨b, 0, none⟩ (.slice Av1 (L.length + 1) cv1) := ⟨_, rfl⟩
          rw [← hW7] at P7 ED7 MD7 ⊢
          clear hW7
          obtain ⟨WE, hWE⟩ : ∃ x, x = W7.drew := ⟨_, rfl⟩
          have hbE : Below W7.heap.size W7 WE := by rw [hWE]; exact below_drew1 (Below.refl _ _)
          have PE := Lib.hid (P7.out.below hbE)
          have EE := Lib.hid ((hbE.block _ (Array.getElem?_eq_some_iff.1 ED7.out).1).trans ED7.out)
          have ME := Lib.hid (MD7.out.trans' (Moves.of_below hbE))
          have CE := Lib.hid (Kd.F_step HC.out (W1 := WE) (fun k q hk => ME.out.block k hk (fun z => z q)))
          have HWE := Lib.hid hWE
          have hwl : ((weigh L : Nat) : Int) + ((occ l).length : Int) ≤ 9223372036854775807 := by
            have h1 : weigh L ≤ 500 * L.length := by
              have : ∀ X : List Ent, (∀ e ∈ X, okE e) → weigh X ≤ 500 * X.length := by
                intro X
                induction X with
                | nil => intro _; simp [weigh]
                | cons e X ih =>
                  intro hX
                  have h1 := ih (fun q hq => hX q (List.mem_cons_of_mem _ hq))
                  have h2 := (hX e List.mem_cons_self).2.2
                  have h3 : weigh (e :: X) = (occ e.f0.f1).length + weigh X := by simp [weigh]
                  rw [h3, List.length_cons]
                  omega
              exact this L HB.out.okl.2
            have h2 : (occ l).length ≤ 500 := HE.out.2.2
            omega
          have hwi : wrap64 (((weigh L : Nat) : Int) + ((occ l).length : Int)) = ((weigh (L ++ [⟨⟨id, l⟩, seq⟩]) : Nat) : Int) := by
            rw [wrap_small _ (by omega), weigh_snoc]
            push_cast
            rfl
          have HWI := Lib.hid hwi
          clear hbE P7 ED7 MD7 hWE hwl hwi
          have c0 : WE.cell? ⟨w.heap.size, 0, none⟩ = some (.int .i64 id) := (blk_cell EE.out 0).trans rfl
          have c1 : WE.cell? ⟨w.heap.size, 1, none⟩ = some (.slice A l.length c) := (blk_cell EE.out 1).trans rfl
          have c3 := PE.out.cells.2.2.1
          refine start_ (n := 11) (S := fun w' => (w'.cell? ⟨b, 2, none⟩ = some (.int .i64 (weigh L : Int))) ∧ (w'.cell? ⟨w.heap.size, 0, none⟩ = some (.int .i64 id)) ∧ (w'.cell? ⟨w.heap.size, 1, none⟩ = some (.slice A l.length c))) (ds := [10]) #[false, false, false, false, false, false, false, false, false, false, false] (by kernel_rfl) rfl rfl (by rw [← HWE.out]; exact ⟨c3, c0, c1⟩) (fun hHeld => ?_); refine with_tabW AddR14.tab AddR14.bits (fun HT_ HW_ => ?_)
          refine pure_ (i := 0) (N := some 74) (v := ?_) (a' := ?_) #[true, false, false, false, false, false, false, false, false, false, false] rfl rfl (any_of HT_.out (by kernel_rfl)) (fun _ _ _ h => h) (Or.inl ⟨by rfl, ?_⟩) ?_ ?_
          rotate_left
          · intro w'
            go_simp
            with_reducible rfl
          rotate_left
          · simp only [Act.put, List.setIfInBounds_toArray, List.set_cons_zero, List.set_cons_succ, i64_w, i32_w]
            rfl
          refine pure_ (i := 1) (N := some 75) (v := ?_) (a' := ?_) #[true, true, false, false, false, false, false, false, false, false, false] rfl rfl (any_of HT_.out (by kernel_rfl)) (fun _ _ _ h => h) (Or.inl ⟨by rfl, ?_⟩) ?_ ?_
          rotate_left
          · intro w'
            go_simp
            with_reducible rfl
          rotate_left
          · simp only [Act.put, List.setIfInBounds_toArray, List.set_cons_zero, List.set_cons_succ, i64_w, i32_w]
            rfl
          refine pure_ (i := 2) (N := some 76) (v := ?_) (a' := ?_) #[true, true, true, false, false, false, false, false, false, false, false] rfl rfl (any_of HT_.out (by kernel_rfl)) (fun _ _ _ h => h) (Or.inl ⟨by rfl, ?_⟩) ?_ ?_
          rotate_left
          · intro w'
            go_simp
            with_reducible rfl
          rotate_left
          · simp only [Act.put, List.setIfInBounds_toArray, List.set_cons_zero, List.set_cons_succ, i64_w, i32_w]
            rfl
          refine pure_ (i := 4) (N := some 78) (v := ?_) (a' := ?_) #[true, true, true, false, true, false, false, false, false, false, false] rfl rfl (any_of HT_.out (by kernel_rfl)) (fun _ _ _ h => h) (Or.inl ⟨by rfl, ?_⟩) ?_ ?_
          rotate_left
          · intro w'
            go_simp
            with_reducible rfl
          rotate_left
          · simp only [Act.put, List.setIfInBounds_toArray, List.set_cons_zero, List.set_cons_succ, i64_w, i32_w]
            rfl
          refine take_ (i := 3) (N := some 77) (v := ?_) (a' := ?_) #[true, true, true, true, true, false, false, false, false, false, false] rfl rfl (take_ofW HT_.out HW_.out (by kernel_rfl)) (fun _ _ _ h => h) (Or.inl ⟨by rfl, ?_⟩) hHeld ?_ ?_
          rotate_left
          · rintro w' ⟨s0, s1, s2⟩
            go_simp
            with_reducible rfl
          rotate_left
          · simp only [Act.put, List.setIfInBounds_toArray, List.set_cons_zero, List.set_cons_succ, i64_w, i32_w]
            rfl
          refine take_ (i := 5) (N := some 79) (v := ?_) (a' := ?_) #[true, true, true, true, true, true, false, false, false, false, false] rfl rfl (take_ofW HT_.out HW_.out (by kernel_rfl)) (fun _ _ _ h => h) (Or.inl ⟨by rfl, ?_⟩) hHeld ?_ ?_
          rotate_left
          · rintro w' ⟨s0, s1, s2⟩
            go_simp
            with_reducible rfl
          rotate_left
          · simp only [Act.put, List.setIfInBounds_toArray, List.set_cons_zero, List.set_cons_succ, i64_w, i32_w]
            rfl
          refine one_ (i := 6) (N := some 80) #[true, true, true, true, true, true, true, false, false, false, false] rfl rfl (one_of HT_.out (by kernel_rfl)) (by decide) (fun KK hKK => ?_)
          rw [← HWE.out] at hHeld ⊢
          refine goes_ Tryz.func29 (by kernel_rfl) rfl #[.agg #[.int .i64 id, .slice A l.length c]] (by rfl) rfl rfl (by (try simp only [List.map_toArray, List.map_cons, List.map_nil]); first | done | rfl) ?_
          with_reducible refine (weight_any id A c l WE (Kd.F_now CE.out) hl).mono ?_
          rintro e w8 ⟨rfl, hb8⟩
          refine ⟨_, rfl, ?_⟩
          have P8 := Lib.hid (PE.out.below hb8)
          have E8 := Lib.hid ((hb8.block _ (Array.getElem?_eq_some_iff.1 EE.out).1).trans EE.out)
          have M8 := Lib.hid (ME.out.trans' (Moves.of_below hb8))
          have x0 := cell_stay2 hb8 c0
          have x1 := cell_stay2 hb8 c1
          have x3 := cell_stay2 hb8 c3
          have uf : w8.frozen? ⟨b, 2, none⟩ = false := blk_frozen P8.out.box 2
          clear hb8
          refine hKK.out _ _ ⟨x3, x0, x1⟩ (fun hHeld => ?_)
          clear hKK KK
          refine norm_ (a' := ?_) ?_ ?_
          rotate_left
          · show Act.put _ (some 80) _ = _
            simp only [Act.put, List.setIfInBounds_toArray, List.set_cons_zero, List.set_cons_succ, i64_w, i32_w]
            rfl
          refine pure_ (i := 7) (N := some 81) (v := ?_) (a' := ?_) #[true, true, true, true, true, true, true, true, false, false, false] rfl rfl (any_of HT_.out (by kernel_rfl)) (fun _ _ _ h => h) (Or.inl ⟨by rfl, ?_⟩) ?_ ?_
          rotate_left
          · intro w'
            go_simp
            with_reducible rfl
          rotate_left
          · simp only [Act.put, List.setIfInBounds_toArray, List.set_cons_zero, List.set_cons_succ, i64_w, i32_w]
            rfl
          refine pure_ (i := 8) (N := some 82) (v := ?_) (a' := ?_) #[true, true, true, true, true, true, true, true, true, false, false] rfl rfl (any_of HT_.out (by kernel_rfl)) (fun _ _ _ h => h) (Or.inl ⟨by rfl, ?_⟩) ?_ ?_
          rotate_left
          · intro w'
            go_simp
            with_reducible rfl
          rotate_left
          · simp only [Act.put, List.setIfInBounds_toArray, List.set_cons_zero, List.set_cons_succ, i64_w, i32_w]
            rfl
          refine pure_ (i := 9) (N := some 83) (v := ?_) (a' := ?_) #[true, true, true, true, true, true, true, true, true, true, false] rfl rfl (any_of HT_.out (by kernel_rfl)) (fun _ _ _ h => h) (Or.inl ⟨by rfl, ?_⟩) ?_ ?_
          rotate_left
          · intro w'
            go_simp
            with_reducible rfl
          rotate_left
          · simp only [Act.put, List.setIfInBounds_toArray, List.set_cons_zero, List.set_cons_succ, i64_w, i32_w]
            rfl
          refine last_ (i := 10) (N := none) #[true, true, true, true, true, true, true, true, true, true, true] rfl rfl (one_of HT_.out (by kernel_rfl)) (by decide) (fun KK hKK => ?_)
          refine skip_ (w1 := ?_) (by rfl) rfl ?_ ?_
          rotate_left
          · go_simp
            rfl
          refine hKK.out _ _ ?_
          clear hKK KK
          refine done_ (done_of HT_.out (by kernel_rfl)) ?_
          clear x0 x1 x3 uf c0 c1 c3 hHeld PE EE CE ME
          go_upto_region 15 with fail
          rw [HWI.out]
          obtain ⟨W9, hW9⟩ : ∃ x, x = w8.setCell ⟨b, 2, none⟩ (.int .i64 ((weigh (L ++ [⟨⟨id, l⟩, seq⟩]) : Nat) : Int)) := ⟨_, rfl⟩
          rw [← hW9]
          have hbne : w.heap.size ≠ b := fun e => by
            have h9 := P8.out.box
            rw [← e, E8.out] at h9
            injection h9 with h9
            injection h9 with _ h9 _
            revert h9; decide
          have P9 := Lib.hid (show PartsF K W9 b m (N + T.length) (posts (L ++ [⟨⟨id, l⟩, seq⟩])) (.slice Av1 (L.length + 1) cv1) (L ++ [⟨⟨id, l⟩, seq⟩]) ((weigh (L ++ [⟨⟨id, l⟩, seq⟩]) : Nat) : Int) last by rw [hW9]; exact P8.out.set2 _)
          have c2 : W9.cell? ⟨w.heap.size, 2, none⟩ = some (.int .i64 seq) := by
            have h := (Below.heap_setCell w8 ⟨b, 2, none⟩ (.int .i64 ((weigh (L ++ [⟨⟨id, l⟩, seq⟩]) : Nat) : Int)) w.heap.size hbne).trans E8.out
            rw [← hW9] at h
            exact (blk_cell h 2).trans rfl
          have M9 := Lib.hid (show Moves (fun k => ¬ K k) w W9 by rw [hW9]; exact M8.out.store _ _ P8.out.kb)
          have uf : W9.frozen? ⟨b, 3, none⟩ = false := blk_frozen P9.out.box 3
          have c3 := P9.out.cells.2.2.2
          clear hW9 hbne P8 E8 M8
          go_wp2_with fail
          go_ret
          have hR := HR.out.symm.trans ((congrArg _ HFF.out.symm).trans HA.out)
          have P10 := P9.out.set3 seq
          have hsz : (L ++ [(⟨⟨id, l⟩, seq⟩ : Ent)]).length = L.length + 1 := by simp
          refine ⟨by rw [hR]; rfl, ?_, M9.out.store _ _ P9.out.kb⟩
          rw [hR]
          exact ⟨m, N + T.length, _, P10.box, P10.kb, P10.klt, P10.maps, P10.list, ⟨by rw [hsz]; omega, fun q hq => by
            rcases List.mem_append.1 hq with hq | hq
            · exact HB.out.okl.2 q hq
            · rw [List.mem_singleton.1 hq]; exact HE.out⟩, by have := HB.out.num; have := TL.out; rw [hsz]; omega, HSQ.out⟩
  · have e1 : (f != 0) = true := by simpa using hf0
    have HA := Lib.hid (show addB L last ⟨⟨id, l⟩, seq⟩ f = (f, L, last) by unfold addB; rw [if_neg hf0])
    clear hf0
    go_wp2_with (go_at_call 25; refine HMAY.out.mono ?_; rintro e w2 ⟨rfl, hb2⟩)
    go_ret
    have hb2' : Below w.heap.size w w2 := hb1.trans (hb2.mono hb1.size)
    have hR := HR.out.symm.trans ((congrArg _ HFF.out.symm).trans HA.out)
    exact ⟨by rw [hR]; rfl, by rw [hR]; exact ⟨m, N, _, HB.out.step hb2'.size (fun k _ hk => hb2'.block k hk)⟩, Moves.of_below hb2'⟩
end Go.Proofs.YteidebllianiiaaGreatDoor

/- Len, Words, Last; Postings, Entries: told. No condition. -/
set_option linter.unusedVariables false
set_option linter.unusedSimpArgs false
namespace Go.Proofs.YteidebllianiiaaGreatDoor
open Go.RowKit Go.Proofs.YteidebllianiiaaGreatDoor.PAll Go.Proofs.YteidebllianiiaaGreatDoorW.PrintWords Go.Proofs.YteidebllianiiaaGreatDoorW.PrintLast Go.Proofs.YteidebllianiiaaGreatDoorW.PrintMore

theorem blen_any {K : Nat → Prop} {b : Nat} {L : List Ent} {last : Int} {w : World} (hB : Buf K b L last w) :
    Calls Tryz.prog 17 #[.pointer (some ⟨b, 0, none⟩)] w fun e w' => e = .returned (.int .i64 (L.length : Int)) ∧ w' = w := by
  obtain ⟨m, N, v, hB⟩ := hB
  obtain ⟨Av, cv, rfl⟩ := Kd.R_slice hB.list
  have c0 := hB.cells.1
  clear hB
  go_enter Tryz.func17, Tryz.ntmps17
  go_wp2_with fail
  go_ret
  exact ⟨rfl, rfl⟩
theorem bwords_any {K : Nat → Prop} {b : Nat} {L : List Ent} {last : Int} {w : World} (hB : Buf K b L last w) :
    Calls Tryz.prog 13 #[.pointer (some ⟨b, 0, none⟩)] w fun e w' => e = .returned (.int .i64 (weigh L : Int)) ∧ w' = w := by
  obtain ⟨m, N, v, hB⟩ := hB
  have c0 := hB.cells.2.2.1
  clear hB
  go_enter Tryz.func13, Tryz.ntmps13
  go_wp2_with fail
  go_ret
  exact ⟨rfl, rfl⟩
def lastB (L : List Ent) (last : Int) : Int := if L = [] then -1 else last
theorem blast_any {K : Nat → Prop} {b : Nat} {L : List Ent} {last : Int} {w : World} (hB : Buf K b L last w) :
    Calls Tryz.prog 18 #[.pointer (some ⟨b, 0, none⟩)] w fun e w' => e = .returned (.int .i64 (lastB L last)) ∧ w' = w := by
  obtain ⟨m, N, v, hB⟩ := hB
  obtain ⟨Av, cv, rfl⟩ := Kd.R_slice hB.list
  have c0 := hB.cells.1
  have c3 := hB.cells.2.2.2
  clear hB
  obtain ⟨r, hr⟩ : ∃ r, r = lastB L last := ⟨_, rfl⟩
  rw [← hr]
  by_cases hL : L = []
  · subst hL
    have hr2 : r = -1 := by rw [hr]; unfold lastB; rw [if_pos rfl]
    clear hr
    subst hr2
    go_enter Tryz.func18, Tryz.ntmps18
    go_wp2_with fail
    go_ret
    exact ⟨rfl, rfl⟩
  · have hr2 : r = last := by rw [hr]; unfold lastB; rw [if_neg hL]
    clear hr
    subst hr2
    have h0 : L.length ≠ 0 := fun e => hL (List.eq_nil_of_length_eq_zero e)
    have h1 : ((L.length : Int) == 0) = false := by rw [beq_eq_false_iff_ne]; omega
    clear hL
    go_enter Tryz.func18, Tryz.ntmps18
    go_wp2_with fail
    go_ret
    exact ⟨rfl, rfl⟩
/-- slices.Clone at places. -/
theorem clone_places {W : World} {base n c : Nat} {A : Option Addr} {zs : List Int} {ok : Nat → Prop} (hR : Kd.R (Kd.int .i64) 3 W base ok (.slice A n c) zs) (hl : zs.length ≤ 1000000000) :
    Calls Tryz.prog 32 #[.slice A n c] W fun e w' => ∃ v', e = .returned v' ∧ Kd.R (Kd.int .i64) 3 w' W.heap.size (fun _ => True) v' zs ∧ Below W.heap.size W w' := by
  have hn := (Kd.R_reads' hR).1
  obtain ⟨hz, ho⟩ := Kd.R_own hR
  subst hn
  rcases ho.2 with ⟨hv, h0⟩ | ⟨g, cap, cur, hv, _⟩
  · simp only [Value.slice.injEq] at hv
    obtain ⟨rfl, e1, e2⟩ := hv
    refine (Tryz.slices_Clone_int_nil zs.length c W).mono ?_
    rintro e w' ⟨rfl, rfl⟩
    have : zs = [] := List.eq_nil_of_length_eq_zero (by omega)
    subst this
    exact ⟨_, rfl, Kd.R_nil _ _ _ _ _, Below.refl _ _⟩
  · simp only [Value.slice.injEq] at hv
    obtain ⟨rfl, _, _⟩ := hv
    refine (Tryz.slices_Clone_int g 0 zs.length c zs W (Nat.le_refl _) (by omega) (fun j hj => ?_)).mono ?_
    · obtain ⟨ad, e, h⟩ := Kd.at_int (Kd.R_reads' hR).2.2 (j : Int) (by omega) (by omega)
      cases e
      rw [Addr.add_lit] at h
      simp only [Int.toNat_natCast] at h
      rw [h]
      unfold rd
      rw [Int.toNat_natCast]
    · rintro e w' ⟨v', rfl, h1, _, h3⟩
      rw [List.take_length] at h1
      exact ⟨_, rfl, Kd.R_of_own (enc := Value.int .i64) h1 (fun _ _ => trivial), h3⟩
theorem own_head {w : World} {base e sz n n' c : Nat} {ad : Addr} {xs : List Value} (h : w.ownsRow base e sz (.slice (some ad) n' c) n xs) : ∃ g, ad = ⟨g, 0, none⟩ ∧ base ≤ g := by
  rcases h.2 with ⟨hv, _⟩ | ⟨g, cap, cur, hv, hb, _⟩
  · cases hv
  · simp only [Value.slice.injEq, Option.some.injEq] at hv
    exact ⟨g, hv.1, hb⟩
theorem add2 (g i j : Nat) : (⟨g, 0, none⟩ : Addr).add (i + j) = ⟨((⟨g, 0, none⟩ : Addr).add i).block, ((⟨g, 0, none⟩ : Addr).add i).off + j, none⟩ := by
  rw [Addr.add_lit, Addr.add_lit]
  simp only [Nat.zero_add]
/-- A posting of a row. -/
theorem post_at {W : World} {base n c : Nat} {A : Option Addr} {ok : Nat → Prop} {P : List Pst} (h : Kd.R k41 41 W base ok (.slice A n c) P) (i : Nat) (hi : i < P.length) :
    ∃ (ad : Addr) (A1 : Option Addr) (c1 : Nat), A = some ad ∧ W.cell? (ad.add (i * 2)) = some (.int .i64 P[i].f0) ∧ W.cell? ⟨(ad.add (i * 2)).block, (ad.add (i * 2)).off + 1, none⟩ = some (.slice A1 P[i].f1.length c1) ∧ Kd.R (Kd.int .i64) 3 W base ok (.slice A1 P[i].f1.length c1) P[i].f1 := by
  have hn := (Kd.R_reads' h).1
  obtain ⟨inner, ho⟩ := Kd.R_own h
  cases A with
  | none =>
    obtain ⟨ad, e, _⟩ := (Kd.R_reads' h).2.2.2.2 (by omega)
    cases e
  | some ad =>
    obtain ⟨g, rfl, _⟩ := own_head ho
    obtain ⟨cs, hl, hM, hc⟩ := Kd.R_get h ⟨0, []⟩ (i : Int) (by omega) (by omega)
    have hx : P.getD (i : Int).toNat ⟨0, []⟩ = P[i] := by rw [Int.toNat_natCast, List.getD_eq_getElem?_getD, List.getElem?_eq_getElem hi]; rfl
    rw [hx] at hM
    obtain ⟨v1, rfl, hR⟩ := k41_openM hM
    obtain ⟨A1, c1, rfl⟩ := Kd.R_slice hR
    rw [Int.toNat_natCast] at hc
    refine ⟨_, A1, c1, rfl, hc 0 _ rfl, ?_, Kd.R_mono hR (fun k hk => hk.1)⟩
    have := hc 1 _ rfl
    rw [← add2]
    exact this
/-- An entry of a row. -/
theorem ent_at {W : World} {base n c : Nat} {A : Option Addr} {ok : Nat → Prop} {P : List Ent} (h : Kd.R k33 33 W base ok (.slice A n c) P) (i : Nat) (hi : i < P.length) :
    ∃ (ad : Addr) (A1 : Option Addr) (c1 : Nat), A = some ad ∧ W.cell? (ad.add (i * 3)) = some (.int .i64 P[i].f0.f0) ∧ W.cell? ⟨(ad.add (i * 3)).block, (ad.add (i * 3)).off + 1, none⟩ = some (.slice A1 P[i].f0.f1.length c1) ∧ W.cell? ⟨(ad.add (i * 3)).block, (ad.add (i * 3)).off + 2, none⟩ = some (.int .i64 P[i].f1) ∧ Kd.R k50 50 W base ok (.slice A1 P[i].f0.f1.length c1) P[i].f0.f1 := by
  have hn := (Kd.R_reads' h).1
  obtain ⟨inner, ho⟩ := Kd.R_own h
  cases A with
  | none =>
    obtain ⟨ad, e, _⟩ := (Kd.R_reads' h).2.2.2.2 (by omega)
    cases e
  | some ad =>
    obtain ⟨g, rfl, _⟩ := own_head ho
    obtain ⟨cs, hl, hM, hc⟩ := Kd.R_get h ⟨⟨0, []⟩, 0⟩ (i : Int) (by omega) (by omega)
    have hx : P.getD (i : Int).toNat ⟨⟨0, []⟩, 0⟩ = P[i] := by rw [Int.toNat_natCast, List.getD_eq_getElem?_getD, List.getElem?_eq_getElem hi]; rfl
    rw [hx] at hM
    obtain ⟨v1, rfl, hR⟩ := k33_openM hM
    obtain ⟨A1, c1, rfl⟩ := Kd.R_slice hR
    rw [Int.toNat_natCast] at hc
    refine ⟨_, A1, c1, rfl, hc 0 _ rfl, ?_, ?_, Kd.R_mono hR (fun k hk => hk.1)⟩
    · have := hc 1 _ rfl
      rw [← add2]
      exact this
    · have := hc 2 _ rfl
      rw [← add2]
      exact this
/-- One element more, of a literal, behind a row of one's own. -/
theorem push_any {α : Type} (d : Kd α) (W : World) (B : Nat) (t e : TypeId) (i0 : TypeInfo) (z : Value) (bytes : Nat)
    (ht : Tryz.prog.underlying t = some (.slice e)) (hi : Tryz.prog.info? e = some i0) (hz0 : i0.zero = some z) (hz1 : i0.size = d.sz) (hz2 : i0.bytes = bytes) (hz : z.cells.size = d.sz) (hs0 : 0 < d.sz) (hb0 : 0 < bytes)
    {v : Value} {xs : List α} {x : α} (lit : Array Value) {okp : Nat → Prop} (HO : d.R e W B (fun _ => True) v xs) (hM : d.M W B okp x lit.toList) (hE : ∀ q, q ∈ d.E → q ≠ e) (hB : B ≤ W.heap.size) (hl : (xs.length + 1) * bytes ≤ 140737488355328) :
    ∃ v1 W4, (∀ ty, (Builtin.append_ #[t, t] ty #[v, .slice (some ⟨W.heap.size, 0, none⟩) 1 1]).run Tryz.prog (W.alloc (.cells lit e)) = .ok v1 W4) ∧ d.R e W4 B (fun _ => True) v1 (xs ++ [x]) ∧ Below B W W4 := by
  obtain ⟨W1, hW1⟩ : ∃ W1, W1 = W.alloc (.cells lit e) := ⟨_, rfl⟩
  have hb1 : Below W.heap.size W W1 := by rw [hW1]; exact below_alloc (Below.refl _ _) _ (Nat.le_refl _)
  have hz1' : W1.heap.size = W.heap.size + 1 := by rw [hW1]; simp
  have hbk : W1.heap[W.heap.size]? = some (.cells lit e (0, 0)) := by rw [hW1]; exact heap_alloc_new W _
  have hcs : ∀ (j : Nat) (u : Value), lit.toList[j]? = some u → W1.cell? ((⟨W.heap.size, 0, none⟩ : Addr).add j) = some u := by
    intro j u hj
    rw [Addr.add_lit, Nat.zero_add, blk_cell hbk j]
    simpa using hj
  obtain ⟨_, inner0, ho0, _⟩ := id HO
  have hM1 := d.M_bound (Kd.M_below hM hb1)
  have hM2 := d.M_mono (ok' := fun k => ∃ cells q, q ≠ e ∧ W1.heap[k]? = some (.cells cells q (0, 0))) (fun k hk => by
    obtain ⟨_, _, _, q, hq, cells, hc⟩ := hk
    exact ⟨cells, q, hE q hq, hc⟩) hM1
  obtain ⟨v1, W4, a1, a2, a3, a4⟩ := append_one d (P := Tryz.prog) W1 B t 0 e i0 z bytes ht hi hz0 hz1 hz2 hz hs0 hb0 (Kd.R_below HO hb1) hcs hM2 (fun k hk => ⟨trivial, fun e2 => by
    obtain ⟨c1, q, hq, h1⟩ := hk
    obtain ⟨c2, h2⟩ := own_typed (pw_own_below ho0 hb1) k e2.symm
    rw [h1] at h2
    injection h2 with h2
    injection h2 with _ h2 _
    exact hq h2⟩) (fun _ _ => trivial) (by omega) hl
  have h4 := a3.size
  refine ⟨v1, W4, fun ty => by rw [← hW1]; exact a1, a2, ⟨a3.os.trans hb1.os, a3.tape.trans hb1.tape, a3.output.trans hb1.output, by omega, fun k hk => (a3.block k (by omega) (fun e2 => ?_)).trans (hb1.block k (by omega))⟩⟩
  have := own_base ho0 k e2.symm
  omega
end Go.Proofs.YteidebllianiiaaGreatDoor

/- Postings, Entries: told. No condition. -/
set_option linter.unusedVariables false
set_option linter.unusedSimpArgs false
namespace Go.Proofs.YteidebllianiiaaGreatDoor
open Go.RowKit Go.Proofs.YteidebllianiiaaGreatDoor.PAll Go.Proofs.YteidebllianiiaaGreatDoorW.PrintWords Go.Proofs.YteidebllianiiaaGreatDoorW.PrintLast Go.Proofs.YteidebllianiiaaGreatDoorW.PrintMore

def PosR5.T : Bool × List (List Nat × List Nat) := (true, [([], []), ([], []), ([1], [1]), ([], []), ([3], [3]), ([4], [4]), ([2, 5], [2, 5]), ([6], [6]), ([0, 7, 5], [0, 7]), ([8, 8, 0, 1, 2, 3, 4, 5, 6, 7, 8], [0, 8])])
def PosR5.B : List Nat := [0, 0, 2, 0, 8, 24, 62, 126, 255, 511]
theorem PosR5.tab : rtab .any (opsOf Tryz.f11 5) = PosR5.T := by kernel_rfl
theorem PosR5.bits : waitsOk PosR5.T.2 PosR5.B = true := by kernel_rfl
set_option maxHeartbeats 2000000 in
set_option maxRecDepth 100000 in
theorem bpostings_any {K : Nat → Prop} {b : Nat} {L : List Ent} {last : Int} {w : World} (hB : Buf K b L last w) (s : ByteArray) (hs : s.size ≤ 1000000000) (hpl : ∀ p ∈ posts L s, p.f1.length ≤ 1000000000) :
    Calls Tryz.prog 11 #[.pointer (some ⟨b, 0, none⟩), .string s] w fun e w' => ∃ v, e = .returned v ∧ Kd.R k41 41 w' w.heap.size (fun _ => True) v (posts L s) ∧ Below w.heap.size w w' := by
  obtain ⟨m, N, v, hB⟩ := hB
  obtain ⟨es, clock, hmap⟩ := hB.maps
  obtain ⟨v0, hlook, hR0, _⟩ := maps_look hmap s hs
  have c1 := hB.cells.2.1
  have hlk := hlook w hmap.map
  have hlen : (posts L s).length ≤ 1000000 := Nat.le_trans (posts_len hB.okl.2 s) (by have := hB.okl.1; omega)
  obtain ⟨P, hP⟩ : ∃ P, P = posts L s := ⟨_, rfl⟩
  rw [← hP] at hR0 hlen hpl ⊢
  clear hB hmap hlook hP
  obtain ⟨A0, cc0, rfl⟩ := Kd.R_slice hR0
  have HR0 := Lib.hid hR0
  have HPL := Lib.hid hpl
  have HLN := Lib.hid hlen
  clear hR0 hpl hlen
  go_enter Tryz.func11, Tryz.ntmps11
  go_wp2_with fail
  clear hlk c1
  go_loopw [5, 15] (fun v5 v15 wr => ∃ i : Nat, v15 = .int .i64 (i : Int) ∧ i ≤ P.length ∧ Kd.R k41 41 wr w.heap.size (fun _ => True) v5 (P.take i) ∧ Below w.heap.size w wr) (fun _ v15 _ => P.length - (intOf v15).toNat)
  case atStart => exact ⟨0, rfl, by omega, Kd.R_nil _ _ _ _ _, Below.refl _ _⟩
  case round =>
    obtain ⟨i, rfl, hi, hR, hB⟩ := hrel
    obtain ⟨W0, hW0⟩ : ∃ W, W = wr := ⟨_, rfl⟩
    rw [← hW0] at hR hB ⊢
    clear hW0 wr
    have hlen := HLN.out
    by_cases hlt : i < P.length
    · have d1 : decide ((i : Int) < (P.length : Int)) = true := decide_eq_true (by omega)
      have g0 : decide ((0 : Int) ≤ (i : Int)) = true := decide_eq_true (by omega)
      obtain ⟨ad, A1, q1, rfl, k0, k1, k2⟩ := post_at (Kd.R_below HR0.out hB) i hlt
      have htk : P.take (i + 1) = P.take i ++ [P[i]] := List.take_succ_eq_append_getElem hlt
      have hpl := HPL.out _ (List.getElem_mem hlt)
      obtain ⟨p, hp⟩ : ∃ p, p = P[i] := ⟨_, rfl⟩
      rw [← hp] at k0 k1 k2 htk hpl
      obtain ⟨pd, pp⟩ := p
      have HTK := Lib.hid htk
      have HPP := Lib.hid hpl
      have K2 := Lib.hid k2
      have HRR := Lib.hid hR
      have HB := Lib.hid hB
      have HLT := Lib.hid hlt
      clear htk hpl k2 hR hB hp hlt
      go_upto_region 5 with fail
      obtain ⟨W1, hW1⟩ : ∃ x, x = W0.alloc (.cells #[.int .i64 pd, .slice A1 pp.length q1] 41) := ⟨_, rfl⟩
      rw [← hW1]
      have hbk : W1.heap[W0.heap.size]? = some (.cells #[.int .i64 pd, .slice A1 pp.length q1] 41 (0, 0)) := by rw [hW1]; exact heap_alloc_new W0 _
      have hb1 : Below W0.heap.size W0 W1 := by rw [hW1]; exact below_alloc (Below.refl _ _) _ (Nat.le_refl _)
      obtain ⟨WD, hWD⟩ : ∃ x, x = W1.drew := ⟨_, rfl⟩
      have hbD : Below W0.heap.size W0 WD := by rw [hWD]; exact below_drew1 hb1
      have hbk2 : WD.heap[W0.heap.size]? = some (.cells #[.int .i64 pd, .slice A1 pp.length q1] 41 (0, 0)) := by rw [hWD]; exact hbk
      have c0 : WD.cell? ⟨W0.heap.size, 0, none⟩ = some (.int .i64 pd) := (blk_cell hbk2 0).trans rfl
      have c1 : WD.cell? ⟨W0.heap.size, 1, none⟩ = some (.slice A1 pp.length q1) := (blk_cell hbk2 1).trans rfl
      have HWD := Lib.hid hWD
      have KD := Lib.hid (Kd.R_below K2.out hbD)
      have RD := Lib.hid (Kd.R_below HRR.out hbD)
      have BD := Lib.hid (HB.out.trans (hbD.mono HB.out.size))
      clear hW1 hbk hb1 hWD hbD hbk2 K2 HRR HB k0 k1
      refine start_ (n := 10) (S := fun w' => (w'.cell? ⟨W0.heap.size, 0, none⟩ = some (.int .i64 pd)) ∧ (w'.cell? ⟨W0.heap.size, 1, none⟩ = some (.slice A1 pp.length q1))) (ds := [7, 8]) #[false, false, false, false, false, false, false, false, false, false] (by kernel_rfl) rfl rfl (by rw [← HWD.out]; exact ⟨c0, c1⟩) (fun hHeld => ?_); refine with_tabW PosR5.tab PosR5.bits (fun HT_ HW_ => ?_)
      refine pure_ (i := 0) (N := some 19) (v := ?_) (a' := ?_) #[true, false, false, false, false, false, false, false, false, false] rfl rfl (any_of HT_.out (by kernel_rfl)) (fun _ _ _ h => h) (Or.inl ⟨by rfl, ?_⟩) ?_ ?_
      rotate_left
      · intro w'
        go_simp
        with_reducible rfl
      rotate_left
      · simp only [Act.put, List.setIfInBounds_toArray, List.set_cons_zero, List.set_cons_succ, i64_w, i32_w]
        rfl
      refine pure_ (i := 1) (N := some 20) (v := ?_) (a' := ?_) #[true, true, false, false, false, false, false, false, false, false] rfl rfl (any_of HT_.out (by kernel_rfl)) (fun _ _ _ h => h) (Or.inl ⟨by rfl, ?_⟩) ?_ ?_
      rotate_left
      · intro w'
        go_simp
        with_reducible rfl
      rotate_left
      · simp only [Act.put, List.setIfInBounds_toArray, List.set_cons_zero, List.set_cons_succ, i64_w, i32_w]
        rfl
      refine pure_ (i := 3) (N := some 22) (v := ?_) (a' := ?_) #[true, true, false, true, false, false, false, false, false, false] rfl rfl (any_of HT_.out (by kernel_rfl)) (fun _ _ _ h => h) (Or.inl ⟨by rfl, ?_⟩) ?_ ?_
      rotate_left
      · intro w'
        go_simp
        with_reducible rfl
      rotate_left
      · simp only [Act.put, List.setIfInBounds_toArray, List.set_cons_zero, List.set_cons_succ, i64_w, i32_w]
        rfl
      refine take_ (i := 2) (N := some 21) (v := ?_) (a' := ?_) #[true, true, true, true, false, false, false, false, false, false] rfl rfl (take_ofW HT_.out HW_.out (by kernel_rfl)) (fun _ _ _ h => h) (Or.inl ⟨by rfl, ?_⟩) hHeld ?_ ?_
      rotate_left
      · rintro w' ⟨s0, s1⟩
        go_simp
        with_reducible rfl
      rotate_left
      · simp only [Act.put, List.setIfInBounds_toArray, List.set_cons_zero, List.set_cons_succ, i64_w, i32_w]
        rfl
      refine take_ (i := 4) (N := some 23) (v := ?_) (a' := ?_) #[true, true, true, true, true, false, false, false, false, false] rfl rfl (take_ofW HT_.out HW_.out (by kernel_rfl)) (fun _ _ _ h => h) (Or.inl ⟨by rfl, ?_⟩) hHeld ?_ ?_
      rotate_left
      · rintro w' ⟨s0, s1⟩
        go_simp
        with_reducible rfl
      rotate_left
      · simp only [Act.put, List.setIfInBounds_toArray, List.set_cons_zero, List.set_cons_succ, i64_w, i32_w]
        rfl
      refine one_ (i := 5) (N := some 24) #[true, true, true, true, true, true, false, false, false, false] rfl rfl (one_of HT_.out (by kernel_rfl)) (by decide) (fun KK hKK => ?_)
      rw [← HWD.out] at hHeld ⊢
      refine goes_ Tryz.func32 (by kernel_rfl) rfl #[.slice A1 pp.length q1] (by rfl) rfl rfl (by (try simp only [List.map_toArray, List.map_cons, List.map_nil]); first | done | rfl) ?_
      with_reducible refine (clone_places KD.out HPP.out).mono ?_
      rintro e w5 ⟨pv, rfl, hpv, hb5⟩
      refine ⟨_, rfl, ?_⟩
      obtain ⟨A2, q2, rfl⟩ := Kd.R_slice hpv
      have x0 := cell_stay2 hb5 c0
      have x1 := cell_stay2 hb5 c1
      have hB5 := BD.out.trans (hb5.mono BD.out.size)
      obtain ⟨i0, hi1, hi2, hi3, hi4⟩ := infoPst
      obtain ⟨v1, W4, ap, hR4, hb4⟩ := push_any k41 w5 w.heap.size 36 41 i0 _ 32 Tryz.underlying36 hi1 hi2 hi3 hi4 rfl (by decide) (by decide) (x := (⟨pd, pp⟩ : Pst)) #[.int .i64 pd, .slice A2 pp.length q2] (okp := fun _ => True) (Kd.R_below RD.out hb5) (k41_mkM _ _ _ (⟨pd, pp⟩ : Pst) (Kd.R_lower hpv BD.out.size)) (by decide) hB5.size (by rw [List.length_take]; omega)
      obtain ⟨WL, hWL⟩ : ∃ x, x = w5.alloc (.cells #[.int .i64 pd, .slice A2 pp.length q2] 41) := ⟨_, rfl⟩
      have HAP := Lib.hid (hWL ▸ ap)
      have HWL := Lib.hid hWL
      have R4 := Lib.hid hR4
      have B4 := Lib.hid (hB5.trans hb4)
      clear ap hWL hR4 hb4 hB5 hb5 hpv hi1 hi2 hi3 hi4
      refine hKK.out _ _ ⟨x0, x1⟩ (fun hHeld => ?_)
      clear hKK KK
      refine norm_ (a' := ?_) ?_ ?_
      rotate_left
      · show Act.put _ (some 24) _ = _
        simp only [Act.put, List.setIfInBounds_toArray, List.set_cons_zero, List.set_cons_succ, i64_w, i32_w]
        rfl
      refine pure_ (i := 6) (N := some 25) (v := ?_) (a' := ?_) #[true, true, true, true, true, true, true, false, false, false] rfl rfl (any_of HT_.out (by kernel_rfl)) (fun _ _ _ h => h) (Or.inl ⟨by rfl, ?_⟩) ?_ ?_
      rotate_left
      · intro w'
        go_simp
        with_reducible rfl
      rotate_left
      · simp only [Act.put, List.setIfInBounds_toArray, List.set_cons_zero, List.set_cons_succ, i64_w, i32_w]
        rfl
      refine last_ (i := 7) (N := some 26) #[true, true, true, true, true, true, true, true, false, false] rfl rfl (one_of HT_.out (by kernel_rfl)) (by decide) (fun KK hKK => ?_)
      refine value_ (w1 := WL) (v := .slice (some ⟨w5.heap.size, 0, none⟩) 1 1) (by rfl) rfl ?_ ?_
      · rw [HWL.out]
        go_simp
      refine hKK.out _ _ ?_
      clear hKK KK
      refine norm_ (a' := ?_) ?_ ?_
      rotate_left
      · show Act.put _ (some 26) _ = _
        simp only [Act.put, List.setIfInBounds_toArray, List.set_cons_zero, List.set_cons_succ, i64_w, i32_w]
        rfl
      refine last_ (i := 8) (N := some 27) #[true, true, true, true, true, true, true, true, true, false] rfl rfl (one_of HT_.out (by kernel_rfl)) (by decide) (fun KK hKK => ?_)
      refine step_append_run rfl (.tmp 19) (.tmp 26) 36 rfl _ _ _ rfl rfl (HAP.out _) ?_
      refine hKK.out _ _ ?_
      clear hKK KK
      refine norm_ (a' := ?_) ?_ ?_
      rotate_left
      · show Act.put _ (some 27) _ = _
        simp only [Act.put, List.setIfInBounds_toArray, List.set_cons_zero, List.set_cons_succ, i64_w, i32_w]
        rfl
      refine pure_ (i := 9) (N := some 5) (v := ?_) (a' := ?_) #[true, true, true, true, true, true, true, true, true, true] rfl rfl (any_of HT_.out (by kernel_rfl)) (fun _ _ _ h => h) (Or.inl ⟨by rfl, ?_⟩) ?_ ?_
      rotate_left
      · intro w'
        go_simp
        with_reducible rfl
      rotate_left
      · simp only [Act.put, List.setIfInBounds_toArray, List.set_cons_zero, List.set_cons_succ, i64_w, i32_w]
        rfl
      refine done_ (done_of HT_.out (by kernel_rfl)) ?_
      have wj : wrap64 ((i : Int) + 1) = ((i + 1 : Nat) : Int) := wrap_nat i (by have := HLT.out; omega)
      have wk : IntKind.i64.wrap ((i : Int) + 1) = ((i + 1 : Nat) : Int) := by rw [i64_w]; exact wj
      clear hHeld x0 x1 c0 c1 HAP HWL
      go_wp2_with fail
      go_roundw
      case rel =>
        have h7 := HLT.out
        refine ⟨i + 1, by first | rfl | rw [wj] | rw [wk], by omega, ?_, B4.out⟩
        rw [HTK.out]
        exact R4.out
      case measure =>
        have h7 := HLT.out
        simp only [intOf]
        omega
    · obtain rfl : i = P.length := by omega
      have d1 : decide ((P.length : Int) < (P.length : Int)) = false := decide_eq_false (by omega)
      rw [List.take_length] at hR
      have HRR := Lib.hid hR
      have HB := Lib.hid hB
      clear hR hB
      go_wp2_with fail
      go_ret
      exact ⟨_, rfl, HRR.out, HB.out⟩

theorem own_f (id seq : Int) (l : List S50) (hl : l.length ≤ 1000) : buffer_own.f id l seq = some (id, l, seq) := by
  have hdc : doc_Clone.f id l = some (id, l) := by
    unfold doc_Clone.f api_Field_71.f
    rw [if_pos (by omega)]
    rfl
  unfold buffer_own.f
  rw [hdc]
  rfl
theorem ent_push {w5 W W0 : World} {v pv : Value} {xs : List Ent} {B : Nat} (ide seq : Int) (l : List S50) (hb5 : Below W0.heap.size W0 w5) (hpv : Kd.R k50 50 w5 W.heap.size (fun _ => True) pv l) (hR : Kd.R k33 33 W0 B (fun _ => True) v xs) (hB : B ≤ W.heap.size) (hW : W.heap.size ≤ w5.heap.size) (hl : xs.length ≤ 1000) :
    ∃ A2 q2, pv = .slice A2 l.length q2 ∧ ∃ v1 W4, (∀ ty, (Builtin.append_ #[25, 25] ty #[v, .slice (some ⟨w5.heap.size, 0, none⟩) 1 1]).run Tryz.prog (w5.alloc (.cells #[.int .i64 ide, .slice A2 l.length q2, .int .i64 seq] 33)) = .ok v1 W4) ∧ Kd.R k33 33 W4 B (fun _ => True) v1 (xs ++ [⟨⟨ide, l⟩, seq⟩]) ∧ Below B w5 W4 := by
  obtain ⟨A2, q2, rfl⟩ := Kd.R_slice hpv
  obtain ⟨i0, hi1, hi2, hi3, hi4⟩ := infoEnt
  obtain ⟨v1, W4, ap, hR4, hb4⟩ := push_any k33 w5 B 25 33 i0 _ 40 Tryz.underlying25 hi1 hi2 hi3 hi4 rfl (by decide) (by decide) (x := (⟨⟨ide, l⟩, seq⟩ : Ent)) #[.int .i64 ide, .slice A2 l.length q2, .int .i64 seq] (okp := fun _ => True) (Kd.R_below hR hb5) (k33_mkM _ _ _ (⟨⟨ide, l⟩, seq⟩ : Ent) (Kd.R_lower hpv hB)) (by decide) (by omega) (by omega)
  exact ⟨A2, q2, rfl, v1, W4, ap, hR4, hb4⟩
set_option maxHeartbeats 2000000 in
set_option maxRecDepth 100000 in
theorem bentries_any {K : Nat → Prop} {b : Nat} {L : List Ent} {last : Int} {w : World} (hB : Buf K b L last w) :
    Calls Tryz.prog 20 #[.pointer (some ⟨b, 0, none⟩)] w fun e w' => ∃ v, e = .returned v ∧ Kd.R k33 33 w' w.heap.size (fun _ => True) v L ∧ Below w.heap.size w w' := by
  obtain ⟨m, N, v, hB⟩ := hB
  obtain ⟨A0, cc0, rfl⟩ := Kd.R_slice hB.list
  have c1 := hB.cells.1
  have HR0 := Lib.hid hB.list
  have HOK := Lib.hid hB.okl
  clear hB
  go_enter Tryz.func20, Tryz.ntmps20
  go_wp2_with fail
  clear c1
  go_loopw [3, 11] (fun v3 v11 wr => ∃ i : Nat, v11 = .int .i64 (i : Int) ∧ i ≤ L.length ∧ Kd.R k33 33 wr w.heap.size (fun _ => True) v3 (L.take i) ∧ Below w.heap.size w wr) (fun _ v11 _ => L.length - (intOf v11).toNat)
  case atStart => exact ⟨0, rfl, by omega, Kd.R_nil _ _ _ _ _, Below.refl _ _⟩
  case round =>
    obtain ⟨i, rfl, hi, hR, hB⟩ := hrel
    obtain ⟨W0, hW0⟩ : ∃ W, W = wr := ⟨_, rfl⟩
    rw [← hW0] at hR hB ⊢
    clear hW0 wr
    have hlen := HOK.out.1
    by_cases hlt : i < L.length
    · have d1 : decide ((i : Int) < (L.length : Int)) = true := decide_eq_true (by omega)
      have g0 : decide ((0 : Int) ≤ (i : Int)) = true := decide_eq_true (by omega)
      obtain ⟨ad, A1, q1, rfl, k0, k1, k3, k2⟩ := ent_at (Kd.R_below HR0.out hB) i hlt
      have htk : L.take (i + 1) = L.take i ++ [L[i]] := List.take_succ_eq_append_getElem hlt
      have hpl := HOK.out.2 _ (List.getElem_mem hlt)
      obtain ⟨p, hp⟩ : ∃ p, p = L[i] := ⟨_, rfl⟩
      rw [← hp] at k0 k1 k2 k3 htk hpl
      obtain ⟨⟨pd, pp⟩, ps⟩ := p
      have HTK := Lib.hid htk
      have HPP := Lib.hid hpl.1.1
      have K2 := Lib.hid k2
      have HRR := Lib.hid hR
      have HB := Lib.hid hB
      have HLT := Lib.hid hlt
      clear htk hpl k2 hR hB hp hlt
      have hOW := fun W1 : World => fun hb : Below W0.heap.size W0 W1 => buffer_own.calls pd A1 q1 pp ps pd pp ps W1 (Kd.C_below (Kd.R_reads' K2.out).2.2 hb) (Kd.R_reads' K2.out).2.1 (own_f pd ps pp HPP.out)
      go_upto_region 5 with fail
      obtain ⟨W1, hW1⟩ : ∃ x, x = W0.alloc (.cells #[.int .i64 pd, .slice A1 pp.length q1, .int .i64 ps] 33) := ⟨_, rfl⟩
      rw [← hW1]
      have hbk : W1.heap[W0.heap.size]? = some (.cells #[.int .i64 pd, .slice A1 pp.length q1, .int .i64 ps] 33 (0, 0)) := by rw [hW1]; exact heap_alloc_new W0 _
      have hb1 : Below W0.heap.size W0 W1 := by rw [hW1]; exact below_alloc (Below.refl _ _) _ (Nat.le_refl _)
      have c0 : W1.cell? ⟨W0.heap.size, 0, none⟩ = some (.int .i64 pd) := (blk_cell hbk 0).trans rfl
      have c1 : W1.cell? ⟨W0.heap.size, 1, none⟩ = some (.slice A1 pp.length q1) := (blk_cell hbk 1).trans rfl
      have c2 : W1.cell? ⟨W0.heap.size, 2, none⟩ = some (.int .i64 ps) := (blk_cell hbk 2).trans rfl
      have HOW := Lib.hid (hOW W1 hb1)
      have HB1 := Lib.hid hb1
      have hz1 := hb1.size
      have hz0 := HB.out.size
      have htl : (L.take i).length ≤ 1000 := by rw [List.length_take]; omega
      clear hW1 hbk hb1 K2 k0 k1 k3 hOW
      have wj : wrap64 ((i : Int) + 1) = ((i + 1 : Nat) : Int) := wrap_nat i (by have := HLT.out; omega)
      have wk : IntKind.i64.wrap ((i : Int) + 1) = ((i + 1 : Nat) : Int) := by rw [i64_w]; exact wj
      go_upto_region 6 with (first
        | (go_at_call 28; refine HOW.out.mono ?_; rintro e w5 ⟨pv, rfl, hpv, hb5⟩; obtain ⟨A2, q2, rfl, v1, W4, ap, hR4, hb4⟩ := ent_push pd ps pp (HB1.out.trans (hb5.mono hz1)) hpv HRR.out (Nat.le_trans hz0 hz1) hb5.size htl)
        | (at_builtin; refine wpList_append_run rfl _ _ 25 rfl _ _ v1 rfl rfl (ap _) ?_))
      have B4 := Lib.hid (((HB.out.trans (HB1.out.mono HB.out.size)).trans (hb5.mono (Nat.le_trans hz0 hz1))).trans hb4)
      have R4 := Lib.hid hR4
      clear ap hR4 hb4 hb5 hpv c0 c1 c2
      go_wp2_with fail
      go_roundw
      case rel =>
        have h7 := HLT.out
        refine ⟨i + 1, by first | rfl | rw [wj] | rw [wk], by omega, ?_, B4.out⟩
        rw [HTK.out]
        exact R4.out
      case measure =>
        have h7 := HLT.out
        simp only [intOf]
        omega
    · obtain rfl : i = L.length := by omega
      have d1 : decide ((L.length : Int) < (L.length : Int)) = false := decide_eq_false (by omega)
      rw [List.take_length] at hR
      have HRR := Lib.hid hR
      have HB := Lib.hid hB
      clear hR hB
      go_wp2_with fail
      go_ret
      exact ⟨_, rfl, HRR.out, HB.out⟩
end Go.Proofs.YteidebllianiiaaGreatDoor

/- New, Seal: told. No condition. -/
set_option linter.unusedVariables false
set_option linter.unusedSimpArgs false
namespace Go.Proofs.YteidebllianiiaaGreatDoor
open Go.RowKit Go.MapKept Go.ChangeMaps Go.Proofs.YteidebllianiiaaGreatDoor.PAll Go.Proofs.YteidebllianiiaaGreatDoorW.PrintWords Go.Proofs.YteidebllianiiaaGreatDoorW.PrintLast Go.Proofs.YteidebllianiiaaGreatDoorW.PrintMore

theorem maps_empty {K : Nat → Prop} {W : World} {m c : Nat} (h : W.heap[m]? = some (.map #[] c)) (hk : ¬ K m) : MapsAt K m 0 (posts []) W :=
  ⟨#[], c, h, hk, ⟨by simp, by simp, by simp⟩, Nat.le_refl _, by simp, fun s hs => (hs rfl).elim, by simp⟩
set_option maxHeartbeats 1000000 in
theorem bnew_any (w : World) : Calls Tryz.prog 7 #[] w fun e w' => ∃ b, e = .returned (.pointer (some ⟨b, 0, none⟩)) ∧ Buf (fun k => k < w.heap.size) b [] (-1) w' ∧ Below w.heap.size w w' := by
  have hmm := @run_makeMap Tryz.prog
  go_enter Tryz.func7, Tryz.ntmps7
  go_wp2_with fail
  clear hmm
  go_ret
  obtain ⟨W1, hW1⟩ : ∃ x, x = w.alloc (.map #[] 0) := ⟨_, rfl⟩
  have hm : W1.heap[w.heap.size]? = some (.map #[] 0) := by rw [hW1]; exact heap_alloc_new w _
  have hz : W1.heap.size = w.heap.size + 1 := by rw [hW1]; simp
  have hb1 : Below w.heap.size w W1 := by rw [hW1]; exact below_alloc (Below.refl _ _) _ (Nat.le_refl _)
  have hlt : ¬ (w.heap.size + 1 < w.heap.size) := by omega
  have hlt2 : ¬ (w.heap.size < w.heap.size) := by omega
  refine ⟨w.heap.size + 1, rfl, ⟨w.heap.size, 0, .slice none 0 0, ?_, hlt, ?_, maps_empty (c := 0) ?_ hlt2, Kd.R_nil _ _ _ _ _, ⟨by simp, by simp⟩, by simp, by omega⟩, below_alloc (by rw [← hW1]; exact hb1) _ (by simp)⟩
  · rw [← hW1, ← hz]
    exact heap_alloc_new W1 _
  · intro k hk
    simp
    omega
  · rw [← hW1]
    exact (Below.heap_alloc W1 _ _ (by omega)).trans hm

end Go.Proofs.YteidebllianiiaaGreatDoor

/- The document's example. No condition. -/
set_option linter.unusedVariables false
set_option linter.unusedSimpArgs false
namespace Go.Proofs.YteidebllianiiaaGreatDoor
open Go.RowKit Go.Proofs.YteidebllianiiaaGreatDoor.PAll Go.Proofs.YteidebllianiiaaGreatDoorW.PrintWords Go.Proofs.YteidebllianiiaaGreatDoorW.PrintLast Go.Proofs.YteidebllianiiaaGreatDoorW.PrintMore

def exD : List Fd := [⟨⟨#[116]⟩, ⟨#[97, 32, 98, 32, 97]⟩⟩]
def exE : Ent := ⟨⟨0, exD⟩, 0⟩
theorem ex_words : wordsT (⟨#[97, 32, 98, 32, 97]⟩ : ByteArray) = [⟨#[97]⟩, ⟨#[98]⟩, ⟨#[97]⟩] := by decide +kernel
theorem ex_occ : occ exD = [(⟨#[116]⟩, ⟨#[97]⟩, 0), (⟨#[116]⟩, ⟨#[98]⟩, 1), (⟨#[116]⟩, ⟨#[97]⟩, 2)] := by
  unfold occ exD
  rw [List.flatMap_cons, ex_words]
  rfl
theorem ex_terms : termsOf (occ exD) = [(⟨#[116]⟩, ⟨#[97]⟩), (⟨#[116]⟩, ⟨#[98]⟩)] := by rw [ex_occ]; decide +kernel
theorem ex_may : mayN exD = 0 := by
  unfold mayN exD
  rw [if_neg (by decide), mayD_cons, mayD_nil]
  rw [ex_words]
  decide +kernel
theorem ex_short : Short exD := ⟨by decide, fun f hf => by
  obtain rfl : f = ⟨⟨#[116]⟩, ⟨#[97, 32, 98, 32, 97]⟩⟩ := by simpa [exD] using hf
  exact ⟨by decide, by decide⟩⟩
theorem ex_posts : posts [exE] ⟨#[116, 0, 97]⟩ = [⟨0, [0, 2]⟩] := by
  have h : posts [exE] ⟨#[116, 0, 97]⟩ = docPosts 0 exD (termsOf (occ exD)) ⟨#[116, 0, 97]⟩ := by
    unfold posts exE
    simp
  rw [h, ex_terms]
  unfold docPosts
  have h1 : List.filter (fun t => decide (keyS t = (⟨#[116, 0, 97]⟩ : ByteArray))) [((⟨#[116]⟩ : ByteArray), (⟨#[97]⟩ : ByteArray)), (⟨#[116]⟩, ⟨#[98]⟩)] = [(⟨#[116]⟩, ⟨#[97]⟩)] := by decide +kernel
  have h2 : placesIn (occ exD) (⟨#[116]⟩, ⟨#[97]⟩) = [0, 2] := by rw [ex_occ]; decide +kernel
  rw [h1, List.map_cons, List.map_nil, h2]
  rfl
theorem ex_weigh : weigh [exE] = 3 := by
  unfold weigh exE
  simp [ex_occ]
/-- A literal row of one's own. -/
theorem lit_R {α : Type} (d : Kd α) (e : TypeId) (W : World) (lit : Array Value) (xs : List α) (hr : ∀ (j : Nat) (h : j < xs.length) W', d.M W' W.heap.size (fun _ => False) xs[j] ((lit.toList.drop (j * d.sz)).take d.sz)) (hl : lit.toList.length = xs.length * d.sz) (hm : xs.length ≤ 1000000) :
    Kd.R d e (W.alloc (.cells lit e)) W.heap.size (fun k => k = W.heap.size) (.slice (some ⟨W.heap.size, 0, none⟩) xs.length xs.length) xs := by
  refine ⟨fun k hk => ?_, ?_⟩
  · simpa [Value.ownBlock] using hk.symm
  · have h := OwnRow.lit (e := e) (R := d.M (W.alloc (.cells lit e)) W.heap.size (fun _ => False)) W W.heap.size (inner := lit.toList) (ps := xs) (size := d.sz) ⟨hl, fun j p hj => by
      have hlt := (List.getElem?_eq_some_iff.1 hj).1
      have := hr j hlt (W.alloc (.cells lit e))
      rw [List.getElem?_eq_getElem hlt] at hj
      cases hj
      exact this⟩ (Nat.le_refl _) (by omega)
    exact h.imp_ (fun _ _ hp => d.M_mono (fun _ hk => hk.elim) hp)
set_option maxHeartbeats 2000000 in
set_option maxRecDepth 100000 in
theorem lives_any (w : World) : Calls Tryz.prog 15 #[] w fun e w' => e = .returned (.bool true) ∧ Below w.heap.size w w' := by
  go_enter Tryz.func15, Tryz.ntmps15
  go_upto_region 2 with (go_at_call 7; refine (bnew_any _).mono ?_; rintro e w1 ⟨b, rfl, hB, hb1⟩)
  obtain ⟨w2, hw2⟩ : ∃ x, x = w1.alloc (.cells #[.string ⟨#[116]⟩, .string ⟨#[97, 32, 98, 32, 97]⟩] 50) := ⟨_, rfl⟩
  have hb2 : Below w1.heap.size w1 w2 := by rw [hw2]; exact below_alloc (Below.refl _ _) _ (Nat.le_refl _)
  have hz2 : w2.heap.size = w1.heap.size + 1 := by rw [hw2]; simp
  have hlit : Kd.R k50 50 w2 w1.heap.size (fun k => k = w1.heap.size) (.slice (some ⟨w1.heap.size, 0, none⟩) 1 1) exD := by
    rw [hw2]
    exact lit_R k50 50 w1 _ exD (fun j h W' => by
      have : j = 0 := by
        have : exD.length = 1 := rfl
        omega
      subst this
      exact k50_mkM _ _ _ _) rfl (by decide)
  have hF : Kd.F k50 w2 (Also (fun k => k < w.heap.size) w1 w2) (some ⟨w1.heap.size, 0, none⟩) exD.length exD := Kd.F_mono (Kd.R_F hlit) (fun k hk => .inr (by omega))
  have hadd := add_any (Also (fun k => k < w.heap.size) w1 w2) b [] (-1) 0 0 (some ⟨w1.heap.size, 0, none⟩) 1 exD w2 (hB.also hb2) hF (by decide) ex_short.docOk (fun f hf => by have := (ex_short.2 f hf).1; omega) (fun _ => okE_of ex_short ex_may) (by decide) (by decide) (0, [exE], 0) (by rw [ex_may]; rfl)
  have HADD := Lib.hid (show Calls Tryz.prog 9 #[.pointer (some ⟨b, 0, none⟩), .agg #[.int .i64 0, .slice (some ⟨w1.heap.size, 0, none⟩) 1 1, .int .i64 0]] w2 _ from hadd)
  have HB1 := Lib.hid hb1
  have HB2 := Lib.hid hb2
  have HW2 := Lib.hid hw2
  clear hB hadd hlit hF hb1 hb2 hz2 hw2
  go_upto_region 5 with (rw [← HW2.out]; go_at_call 9; refine HADD.out.mono ?_; rintro e w3 ⟨rfl, hB3, hm3⟩)
  have hp := bpostings_any hB3 ⟨#[116, 0, 97]⟩ (by decide) (fun p hp => by
    have hp' : p ∈ posts [exE] ⟨#[116, 0, 97]⟩ := hp
    rw [ex_posts] at hp'
    rw [List.mem_singleton.1 hp']
    decide)
  have hp2 : Calls Tryz.prog 11 #[.pointer (some ⟨b, 0, none⟩), .string ⟨#[116, 0, 97]⟩] w3 fun e w' => ∃ v, e = .returned v ∧ Kd.R k41 41 w' w3.heap.size (fun _ => True) v [⟨0, [0, 2]⟩] ∧ Below w3.heap.size w3 w' := by
    rw [← ex_posts]
    exact hp
  have HP := Lib.hid hp2
  have B3 := Lib.hid hB3
  have M3 := Lib.hid hm3
  clear hp hp2 hB3 hm3
  go_upto_region 8 with (go_at_call 11; refine HP.out.mono ?_; rintro e w4 ⟨pv, rfl, hpv, hb4⟩; obtain ⟨Ap, cp, rfl⟩ := Kd.R_slice hpv)
  obtain ⟨ad, A1, q1, rfl, k0, k1, k2⟩ := post_at hpv 0 (by decide)
  obtain ⟨_, ho⟩ := Kd.R_own hpv
  obtain ⟨g, rfl, _⟩ := own_head ho
  obtain ⟨a1, rfl, k3⟩ := Kd.at_int (Kd.R_reads' k2).2.2 (1 : Int) (by decide) (by decide)
  obtain ⟨_, ho2⟩ := Kd.R_own k2
  obtain ⟨g1, rfl, _⟩ := own_head ho2
  have c0 : w4.cell? ⟨g, 0, none⟩ = some (.int .i64 0) := by simpa [Addr.add_lit] using k0
  have c1 : w4.cell? ⟨g, 1, none⟩ = some (.slice (some ⟨g1, 0, none⟩) 2 q1) := by simpa [Addr.add_lit] using k1
  have c2 : w4.cell? ⟨g1, 1, none⟩ = some (.int .i64 2) := by
    have h := k3
    simp only [Addr.add_lit] at h
    exact h
  have hw := bwords_any (B3.out.below hb4)
  have hw2 : Calls Tryz.prog 13 #[.pointer (some ⟨b, 0, none⟩)] w4 fun e w' => e = .returned (.int .i64 3) ∧ w' = w4 := by
    have h : weigh [exE] = 3 := ex_weigh
    have hw3 := hw
    rw [show weigh ((0 : Int), [exE], (0 : Int)).2.1 = 3 from ex_weigh] at hw3
    exact hw3
  have HWD := Lib.hid hw2
  have HB := Lib.hid (HB1.out.trans ((HB2.out.mono HB1.out.size).trans (((M3.out.toBelow (B := w.heap.size) (fun k hk => .inl hk) (Nat.le_trans HB1.out.size HB2.out.size))).trans (hb4.mono (Nat.le_trans (Nat.le_trans HB1.out.size HB2.out.size) M3.out.size)))))
  clear k0 k1 k2 k3 ho ho2 hpv hb4 hw hw2
  go_wp2_with (go_at_call 13; refine HWD.out.mono ?_; rintro e w5 ⟨rfl, rfl⟩)
  go_ret
  exact ⟨rfl, HB.out⟩
end Go.Proofs.YteidebllianiiaaGreatDoor

/- Keys, told. No condition. -/
set_option linter.unusedVariables false
set_option linter.unusedSimpArgs false
namespace Go.Proofs
open Go.RowKit Go.Maps Go.Sort Go.Shelf
/-- slices.Sort's two contracts, laid. -/
theorem Tryz.sorts (m : Nat) : AnyZ.SortsIn Tryz.prog Tryz.sorted30_ren Fence.wide m :=
  ⟨fun blk off cap ss W hH hblk hsz => callsIn_wide.2 (AnyM.slices_Sort_string Tryz.sort55 blk off cap ss W hH hblk hsz),
   fun p cap W => callsIn_wide.2 (AnyM.slices_Sort_string_none Tryz.sort55 p cap W)⟩

/-- maps.Keys at this map's type. -/
theorem Tryz.maps_Keys (mb : Option Nat) (W : World) : CallsIn Fence.wide 5 Tryz.prog 31 #[.map mb] W fun e w' => e = .returned (.func (.func 56) #[] #[.pointer (some ⟨W.heap.size, 0, none⟩)]) ∧ w' = W.alloc (.cells #[.map mb] 61) :=
  AnyZ.keys_in Tryz.keys31 Fence.wide 5 trivial rfl mb W

set_option maxHeartbeats 1000000 in
/-- slices.Sorted at what maps.Keys handed back. -/
theorem Tryz.slices_Sorted_keys {H : Type} (b nn : Nat) (D0 : DataW H) (R : Value → Option (DataW H × List MemPlace)) (w : World) (hown : w.ownsMap Tryz.prog 9 R b nn D0) (hmax : Maps.size D0 ≤ maxLen) (hbytes : Maps.size D0 * 16 ≤ 140737488355328) :
    CallsIn Fence.wide 5 Tryz.prog 30 #[.func (.func 56) #[] #[.pointer (some ⟨w.heap.size, 0, none⟩)]] (w.alloc (.cells #[.map (some b)] 61)) fun e w' => ∃ (v : Value) (ss : List (List UInt8)), e = .returned v ∧ ss.Perm (strKeys D0) ∧
      w'.ownsRow (w.alloc (.cells #[.map (some b)] 61)).heap.size 9 1 v ss.length ((ss.mergeSort (fun x y => decide (x ≤ y))).map encStr) ∧ (v = .slice none 0 0 ↔ ss = []) ∧ Below (w.alloc (.cells #[.map (some b)] 61)).heap.size (w.alloc (.cells #[.map (some b)] 61)) w' := by
  have hbl := hown.lt
  have hseq : SeqGives Fence.wide 2 Tryz.prog 56 #[.pointer (some ⟨w.heap.size, 0, none⟩)] encStr (fun ss => ss.Perm (strKeys D0)) (Maps.size D0) (w.alloc (.cells #[.map (some b)] 61)) :=
    AnyZ.keys_gives (ρ := Tryz.keys31_ren) { Tryz.keys31 with } Fence.wide _ trivial rfl (by omega) w.heap.size b nn D0 _ (by simp) (by simp) (by
      obtain ⟨es, clock, hb, Ft, hs, hD⟩ := hown
      exact ⟨es, clock, (Below.heap_alloc _ _ b hbl).trans hb, Ft, hs, hD⟩)
  exact AnyZ.sorted_in Tryz.sorted30 Fence.wide 5 trivial trivial trivial trivial rfl (by omega) (Tryz.sorts _) (enters_of Tryz.func55 (by kernel_rfl) rfl) 56 #[.pointer (some ⟨w.heap.size, 0, none⟩)] trivial (enters_of Tryz.func56 (by kernel_rfl) rfl) _ _ hmax hbytes _ hseq

end Go.Proofs
namespace Go.Proofs.YteidebllianiiaaGreatDoor
open Go.RowKit Go.Sort Go.Proofs.YteidebllianiiaaGreatDoor.PAll Go.Proofs.YteidebllianiiaaGreatDoorW.PrintWords Go.Proofs.YteidebllianiiaaGreatDoorW.PrintLast Go.Proofs.YteidebllianiiaaGreatDoorW.PrintMore

/-- A map's values, held as they stand. -/
def heldR (v : Value) : Option (DataW Value × List MemPlace) := some (.held v, [])
noncomputable def dataOf (es : Array MapEntry) : DataW Value := .map ((es.toList.map (Go.WideElems.rg Tryz.prog 9 heldR)).foldr DataW.insert [])
theorem strOfL (s : ByteArray) : (⟨s.data.toList.toArray⟩ : ByteArray) = s := by cases s; rfl
/-- What Keys tells: rising, just those that stand somewhere. -/
def IsKeys (f : ByteArray → List Pst) (X : List ByteArray) : Prop := X.Pairwise (fun a b => a.data.toList < b.data.toList) ∧ ∀ s, s ∈ X ↔ f s ≠ []
section
variable {K : Nat → Prop} {W : World} {m N : Nat} {f : ByteArray → List Pst} {es : Array MapEntry} {clock : Nat}
theorem maps_rd (h : MapsF K W m N f es clock) : ∀ x ∈ es.toList, ∃ s : ByteArray, x.key = .string s ∧ Go.WideElems.rd Tryz.prog 9 heldR x = some (.string s.data.toList, .held x.val) := by
  intro x hx
  obtain ⟨s, a1, a2, _⟩ := h.who x hx
  refine ⟨s, a1, ?_⟩
  unfold Go.WideElems.rd
  rw [a1, keyOfS s a2]
  rfl
theorem maps_owns (h : MapsF K W m N f es clock) (hN : N ≤ 1000000) : W.ownsMap Tryz.prog 9 heldR m N (dataOf es) :=
  ⟨es, clock, h.map, ⟨by have := h.size; unfold maxLen; omega, h.stamped, fun x hx => by
    obtain ⟨s, _, e⟩ := maps_rd h x hx
    exact ⟨_, e⟩⟩, h.size, rfl⟩
theorem maps_keys (h : MapsF K W m N f es clock) (hN : N ≤ 1000000) {ss : List (List UInt8)} (hp : ss.Perm (strKeys (dataOf es))) : IsKeys f ((ss.mergeSort (fun x y => decide (x ≤ y))).map (fun x => (⟨x.toArray⟩ : ByteArray))) := by
  have hown := maps_owns h hN
  obtain ⟨es', hD, hpw, _⟩ := hown.entries keyedS
  have hmem : ∀ x : List UInt8, x ∈ strKeys (dataOf es) ↔ ∃ y ∈ es.toList, y.key = .string ⟨x.toArray⟩ := by
    intro x
    unfold dataOf strKeys
    simp only [List.mem_map]
    constructor
    · rintro ⟨p, hp', rfl⟩
      obtain ⟨y, hy, rfl⟩ := List.mem_map.1 (Go.mem_sorted.1 hp')
      obtain ⟨s, e1, e2⟩ := maps_rd h y hy
      rw [Go.WideElems.rg_of e2]
      refine ⟨y, hy, ?_⟩
      rw [e1]
      show Value.string s = Value.string ⟨s.data.toList.toArray⟩
      rw [strOfL]
    · rintro ⟨y, hy, e⟩
      obtain ⟨s, e1, e2⟩ := maps_rd h y hy
      refine ⟨_, Go.mem_sorted.2 (List.mem_map.2 ⟨y, hy, rfl⟩), ?_⟩
      rw [Go.WideElems.rg_of e2]
      rw [e1] at e
      have e3 : s = ⟨x.toArray⟩ := Value.string.inj e
      rw [e3]
      rfl
  have hnd : (strKeys (dataOf es)).Nodup := by
    rw [hD]
    show (es'.map fun p => Go.strOf p.1).Nodup
    refine List.pairwise_map.2 (hpw.imp_of_mem fun {p q} hp' hq' hne e => hne ?_)
    have hk : ∀ p ∈ es', ∃ x, p.1 = .string x := by
      intro p hp'
      have h1 : (DataW.map es') = dataOf es := hD.symm
      unfold dataOf at h1
      injection h1 with h1
      rw [h1] at hp'
      obtain ⟨y, hy, rfl⟩ := List.mem_map.1 (Go.mem_sorted.1 hp')
      obtain ⟨s, e1, e2⟩ := maps_rd h y hy
      exact ⟨_, by rw [Go.WideElems.rg_of e2]⟩
    obtain ⟨a, ha⟩ := hk p hp'
    obtain ⟨b, hb⟩ := hk q hq'
    rw [ha, hb] at e ⊢
    exact congrArg _ e
  have hns : ss.Nodup := hp.nodup_iff.2 hnd
  have tr : ∀ a b c : List UInt8, decide (a ≤ b) = true → decide (b ≤ c) = true → decide (a ≤ c) = true := fun a b c h1 h2 => by simp only [decide_eq_true_eq] at *; exact List.le_trans h1 h2
  have tot : ∀ a b : List UInt8, (decide (a ≤ b) || decide (b ≤ a)) = true := fun a b => by simp only [Bool.or_eq_true, decide_eq_true_eq]; exact List.le_total a b
  have hsp := List.pairwise_mergeSort (le := fun x y : List UInt8 => decide (x ≤ y)) tr tot ss
  have hpm := List.mergeSort_perm ss (fun x y : List UInt8 => decide (x ≤ y))
  have hnm := hpm.nodup_iff.2 hns
  refine ⟨?_, fun s => ?_⟩
  · rw [List.pairwise_map]
    refine (List.Pairwise.and hsp hnm).imp fun {a b} hab => ?_
    have h1 : a ≤ b := by simpa using hab.1
    show a < b
    exact Classical.byContradiction (fun hn => hab.2 (List.le_antisymm h1 hn))
  · rw [List.mem_map]
    constructor
    · rintro ⟨x, hx, rfl⟩
      obtain ⟨y, hy, e⟩ := (hmem x).1 (hp.mem_iff.1 (hpm.mem_iff.1 hx))
      obtain ⟨t, a1, _, a3, _⟩ := h.who y hy
      rw [e] at a1
      rw [Value.string.inj a1]
      exact a3
    · intro hne
      obtain ⟨y, hy, e⟩ := h.all s hne
      exact ⟨s.data.toList, hpm.mem_iff.2 (hp.mem_iff.2 ((hmem _).2 ⟨y, hy, by rw [strOfL]; exact e⟩)), strOfL s⟩
end
set_option maxHeartbeats 1000000 in
theorem bkeys_any {K : Nat → Prop} {b : Nat} {L : List Ent} {last : Int} {w : World} (hB : Buf K b L last w) :
    Calls Tryz.prog 10 #[.pointer (some ⟨b, 0, none⟩)] w fun e w' => ∃ (v : Value) (X : List ByteArray), e = .returned v ∧ Kd.R Kd.string 9 w' w.heap.size (fun _ => True) v X ∧ IsKeys (posts L) X ∧ Below w.heap.size w w' := by
  obtain ⟨m, N, v, hB⟩ := hB
  obtain ⟨es, clock, hmap⟩ := hB.maps
  have hN : N ≤ 1000000 := by have := hB.num; have := hB.okl.1; omega
  have hown := maps_owns hmap hN
  have hsz : Maps.size (dataOf es) ≤ 1000000 := by
    have h1 : Maps.size (dataOf es) = es.size := by
      show ((es.toList.map (Go.WideElems.rg Tryz.prog 9 heldR)).foldr DataW.insert []).length = _
      rw [Go.length_sorted]; simp
    rw [h1]
    have := hmap.size
    omega
  have c1 := hB.cells.2.1
  have HM := Lib.hid hmap
  clear hB hmap
  refine (callsIn_wide (n := 6)).1 ?_
  have hfK : Fence.wide.fn 31 := trivial
  have hfS : Fence.wide.fn 30 := trivial
  refine callsIn_of_wp Tryz.func10 rfl trivial ?_ rfl
  simp only [Tryz.ntmps10, List.size_toArray, List.length_cons, List.length_nil, Nat.reduceAdd, Nat.reduceSub, Array.replicate_succ, Array.replicate_zero, List.push_toArray, List.append_toArray, List.nil_append, List.cons_append]
  gi_wp2_with (first
    | (gi_at_call 31; refine (Tryz.maps_Keys _ _).mono ?_; rintro e w' ⟨rfl, rfl⟩)
    | (gi_at_call 30; refine (Tryz.slices_Sorted_keys m N (dataOf es) heldR w hown (Nat.le_trans hsz (by decide)) (by omega)).mono ?_; rintro e w' ⟨v, ss, rfl, hS, hrow, hnil, hb⟩))
  go_ret
  refine ⟨v, _, rfl, ?_, maps_keys HM.out hN hS, ((Below.refl _ w).alloc (Nat.le_refl _) _).trans (hb.mono (by simp))⟩
  have hl : ((ss.mergeSort (fun x y => decide (x ≤ y))).map (fun x => (⟨x.toArray⟩ : ByteArray))).length = ss.length := by rw [List.length_map, List.length_mergeSort]
  have hm : ((ss.mergeSort (fun x y => decide (x ≤ y))).map (fun x => (⟨x.toArray⟩ : ByteArray))).map Value.string = (ss.mergeSort (fun x y => decide (x ≤ y))).map encStr := by rw [List.map_map]; rfl
  exact Kd.R_of_own (enc := Value.string) (by rw [hl]; show World.ownsRow _ _ _ _ _ _ (List.map Value.string _); rw [hm]; exact own_weaken hrow (by simp)) (fun _ _ => trivial)
end Go.Proofs.YteidebllianiiaaGreatDoor

/- How what is handed in is read, kind by kind. No condition. -/
set_option linter.unusedVariables false
set_option linter.unusedSimpArgs false
namespace Go.Proofs.YteidebllianiiaaGreatDoor
open Go.RowKit Go.ChangeShapes Go.WideShapes Go.ChangeAt Go.Deep Go.Proofs.YteidebllianiiaaGreatDoorW.PrintWords

/-- Whatever reads as type t has cells of kind d, and is ok. -/
def Opens {α : Type} (P : Program) (t : TypeId) (d : Kd α) (ok : α → Prop) : Prop :=
  P.cellsOf t = d.sz ∧ ∀ {H : Type} (enc : TypeId × Value → H) (w : World) (base : Nat) (held : Bool) (fuel : Nat) (cs : List Value) (y : DataW H × List MemPlace), DataW.trod enc P w base (fun _ => true) held fuel t cs = some y → ∃ x, ok x ∧ d.K w x cs
/-- The fields from an offset on. -/
structure OpensF {α : Type} (P : Program) (fs : List Field) (off : Nat) (d : Kd α) (ok : α → Prop) : Prop where
  out : ∀ {H : Type} (enc : TypeId × Value → H) (w : World) (base : Nat) (held : Bool) (fuel : Nat) (cs : List Value), cs.length = off + d.sz → (∀ f ∈ fs, ∃ y : DataW H × List MemPlace, DataW.trod enc P w base (fun _ => true) held fuel f.type ((cs.drop f.offset).take (P.cellsOf f.type)) = some y) → ∃ x, ok x ∧ d.K w x (cs.drop off)
section
variable {P : Program} {t e : TypeId} {α β : Type} {a : Kd α} {b : Kd β} {oka : α → Prop} {okb : β → Prop}
theorem opens_int (k : IntKind) (ht : P.underlying t = some (.int k)) (hc : P.cellsOf t = 1) : Opens P t (Kd.int k) (fun n => (Lit.int k n).wf = true) :=
  ⟨hc, fun enc w base held fuel cs y h => by
    obtain ⟨n, hn, _, hw⟩ := DataW.trod_int ht h
    exact ⟨n, hw, hn⟩⟩

theorem opens_string (ht : P.underlying t = some .string) (hc : P.cellsOf t = 1) : Opens P t Kd.string (fun s => s.size ≤ 9223372036854775807) :=
  ⟨hc, fun enc w base held fuel cs y h => by
    obtain ⟨s, hs, _, hw⟩ := DataW.trod_string ht h
    exact ⟨s, by unfold maxLen at hw; exact hw, hs⟩⟩

theorem opens_iso (f : β → α) (g : α → β) (hfg : ∀ x, f (g x) = x) (h : Opens P t a oka) : Opens P t (Kd.iso a f) (fun x => oka (f x)) :=
  ⟨h.1, fun enc w base held fuel cs y q => by
    obtain ⟨x, h1, h2⟩ := h.2 enc w base held fuel cs y q
    exact ⟨g x, by show oka (f (g x)); rw [hfg]; exact h1, by show a.K w (f (g x)) cs; rw [hfg]; exact h2⟩⟩
theorem opensF_last {f : Field} {off : Nat} (ho : f.offset = off) (h : Opens P f.type a oka) : OpensF P [f] off a oka := by
  constructor
  intro H enc w base held fuel cs hl hf
  obtain ⟨y, hy⟩ := hf f List.mem_cons_self
  obtain ⟨x, h1, h2⟩ := h.2 enc w base held fuel _ y hy
  rw [ho, h.1, List.take_of_length_le (by rw [List.length_drop]; omega)] at h2
  exact ⟨x, h1, h2⟩
theorem opensF_cons {f : Field} {fs : List Field} {off : Nat} (ho : f.offset = off) (h : Opens P f.type a oka) (hr : OpensF P fs (off + a.sz) b okb) : OpensF P (f :: fs) off (Kd.pair a b) (fun x => oka x.1 ∧ okb x.2) := by
  constructor
  intro H enc w base held fuel cs hl hf
  have hl : cs.length = off + (a.sz + b.sz) := hl
  obtain ⟨y, hy⟩ := hf f List.mem_cons_self
  obtain ⟨x, h1, h2⟩ := h.2 enc w base held fuel _ y hy
  obtain ⟨x2, h3, h4⟩ := hr.out enc w base held fuel cs (by omega) (fun g hg => hf g (List.mem_cons_of_mem _ hg))
  rw [ho, h.1] at h2
  refine ⟨(x, x2), ⟨h1, h3⟩, _, _, ?_, h2, h4⟩
  rw [← List.drop_drop, List.take_append_drop]
theorem opens_struct {fs : Array Field} (ht : P.underlying t = some (.struct fs)) (hc : P.cellsOf t = a.sz) (h : OpensF P fs.toList 0 a oka) : Opens P t a oka :=
  ⟨hc, fun enc w base held fuel cs y q => by
    obtain ⟨xs, n, _, _, hl, hlen, hf⟩ := DataW.trod_struct ht q
    obtain ⟨x, h1, h2⟩ := h.out enc w base held n cs (by omega) (fun f hf2 => by
      obtain ⟨i, hi, e⟩ := List.mem_iff_getElem.1 hf2
      have := hf i f (by rw [← e, ← Array.getElem?_toList]; exact List.getElem?_eq_getElem hi)
      rw [List.getElem?_eq_getElem (by rw [hlen]; simpa using hi)] at this
      exact ⟨_, this⟩)
    exact ⟨x, h1, h2⟩⟩
theorem opens_struct2 {f0 f1 : Field} (ht : P.underlying t = some (.struct #[f0, f1])) (o0 : f0.offset = 0) (o1 : f1.offset = a.sz) (hc : P.cellsOf t = a.sz + b.sz) (h0 : Opens P f0.type a oka) (h1 : Opens P f1.type b okb) : Opens P t (Kd.pair a b) (fun x => oka x.1 ∧ okb x.2) :=
  opens_struct ht hc (opensF_cons o0 h0 (opensF_last (by rw [o1, Nat.zero_add]) h1))
theorem opens_slice (ht : P.underlying t = some (.slice e)) (hc : P.cellsOf t = 1) (h : Opens P e a oka) (hz : 0 < a.sz) : Opens P t (Kd.slice e a) (fun l => ∀ x ∈ l, oka x) :=
  ⟨hc, fun enc w base held fuel cs y q => by
    rcases open_slice ht q with ⟨rfl, _⟩ | ⟨x, l, c, m, n, D, Pl, rfl, _, hl, hm, hmm, _, hx⟩
    · exact ⟨[], by simp, none, 0, rfl, Nat.le_refl _, Kd.C_nil _ _⟩
    · simp only [if_true] at hmm
      subst hmm
      have each : ∀ i, ∃ z : Option α, i < m → ∃ p, z = some p ∧ oka p ∧ ∃ c : List Value, c.length = a.sz ∧ a.K w p c ∧ ∀ k u, c[k]? = some u → w.cell? (x.add (i * a.sz + k)) = some u := by
        intro i
        by_cases hi : i < m
        · obtain ⟨cs', h1, h2⟩ := hx i hi
          obtain ⟨p, h3, h4⟩ := h.2 enc w base held n cs' _ h2
          obtain ⟨_, hlen, hcell⟩ := World.cells?_some h1
          rw [h.1] at h1 hlen hcell
          refine ⟨some p, fun _ => ⟨p, rfl, h3, cs', hlen, h4, fun k u hu => ?_⟩⟩
          have hk : k < a.sz := by have := (List.getElem?_eq_some_iff.1 hu).1; omega
          have h5 := hcell k hk
          rw [← Deep.add_add, ← hu]
          exact h5
        · exact ⟨none, fun q => (hi q).elim⟩
      obtain ⟨z, hz2⟩ := Classical.axiomOfChoice each
      have hget : ∀ i, i < m → ∃ p, z i = some p := fun i hi => by obtain ⟨p, e, _⟩ := hz2 i hi; exact ⟨p, e⟩
      have hlist : ∀ k, k ≤ m → ∃ L : List α, L.length = k ∧ ∀ i, (hi : i < k) → z i = L[i]? := by
        intro k
        induction k with
        | zero => intro _; exact ⟨[], rfl, fun i hi => absurd hi (by omega)⟩
        | succ k ih =>
          intro hk
          obtain ⟨L, h1, h2⟩ := ih (by omega)
          obtain ⟨p, hp⟩ := hget k (by omega)
          refine ⟨L ++ [p], by simp [h1], fun i hi => ?_⟩
          rcases Nat.lt_succ_iff_lt_or_eq.1 hi with q | q
          · rw [List.getElem?_append_left (by omega)]; exact h2 i q
          · rw [q, List.getElem?_append_right (by omega), h1, Nat.sub_self, hp]; rfl
      obtain ⟨L, h1, h2⟩ := hlist l (by omega)
      refine ⟨L, fun p hp => ?_, some x, m, by rw [h1], by omega, rfl, by unfold maxLen at hm; omega, fun _ => ⟨x, rfl, fun j p hj => ?_⟩⟩
      · obtain ⟨i, hi, e⟩ := List.mem_iff_getElem.1 hp
        obtain ⟨q, e1, e2, _⟩ := hz2 i (by omega)
        have := h2 i (by omega)
        rw [e1, List.getElem?_eq_getElem hi, e] at this
        cases this
        exact e2
      · have hjl : j < l := by have := (List.getElem?_eq_some_iff.1 hj).1; omega
        obtain ⟨q, e1, _, c', e3, e4, e5⟩ := hz2 j (by omega)
        have := h2 j hjl
        rw [e1, hj] at this
        cases this
        exact ⟨c', e3, e4, e5⟩⟩

/-- A slice, as an argument. -/
theorem open_args {H : Type} {enc : TypeId × Value → H} {w : World} {base b0 : Nat} {held : Bool} {r : Reach} {v : Value} {d : DataW H} {ps : List MemPlace} (ht : P.underlying t = some (.slice e)) (hc : P.cellsOf t = 1) (h : Opens P e a oka) (hz : 0 < a.sz)
    (hval : Value.okWide P w r b0 t v) (hd : DataW.Trod enc P w base (fun _ => true) held t v d ps) : ∃ (l : List α) (A : Option Addr) (c : Nat), v = .slice A l.length c ∧ (∀ x ∈ l, oka x) ∧ l.length ≤ c ∧ a.C w A l.length l := by
  obtain ⟨A, len, cap, rfl⟩ := okWide_slice ht hval
  obtain ⟨fuel, hf⟩ := hd
  obtain ⟨x, h1, A', c', h2, h3, h4⟩ := (opens_slice ht hc h hz).2 enc w base held fuel _ _ hf
  have e : Value.slice A len cap = .slice A' x.length c' := by simpa [Value.cells] using h2
  exact ⟨x, A', c', e, h1, h3, h4⟩
end
end Go.Proofs.YteidebllianiiaaGreatDoor

/- Documents that are handed in. No condition. -/
set_option linter.unusedVariables false
set_option linter.unusedSimpArgs false
namespace Go.Proofs.YteidebllianiiaaGreatDoor
open Go.RowKit Go.ChangeShapes Go.WideShapes Go.ChangeAt Go.Proofs.YteidebllianiiaaGreatDoor.PAll Go.Proofs.YteidebllianiiaaGreatDoorW.PrintWords

set_option maxRecDepth 100000 in
theorem opens_str : Opens Tryz.prog 9 Kd.string (fun s => s.size ≤ 9223372036854775807) := opens_string Tryz.underlying9 (by kernel_rfl)
set_option maxRecDepth 100000 in
theorem opens_int3 : Opens Tryz.prog 3 (Kd.int .i64) (fun n => (Lit.int .i64 n).wf = true) := opens_int .i64 Tryz.underlying3 (by kernel_rfl)

set_option maxRecDepth 100000 in
theorem opens_field : Opens Tryz.prog 50 k50 (fun f => f.f0.size ≤ 9223372036854775807 ∧ f.f1.size ≤ 9223372036854775807) :=
  opens_iso (a := Kd.pair Kd.string Kd.string) (oka := fun x => x.1.size ≤ 9223372036854775807 ∧ x.2.size ≤ 9223372036854775807) (fun x : S50 => (x.f0, x.f1)) (fun p => ⟨p.1, p.2⟩) (fun _ => rfl) (opens_struct2 Tryz.underlying50 rfl rfl (by kernel_rfl) opens_str opens_str)
/-- A document whose texts are as long as the form lets be. -/
def okD (x : S31) : Prop := (Lit.int .i64 x.f0).wf = true ∧ ∀ f ∈ x.f1, f.f0.size ≤ 9223372036854775807 ∧ f.f1.size ≤ 9223372036854775807
set_option maxRecDepth 100000 in
theorem opens_doc : Opens Tryz.prog 31 k31 okD :=
  opens_iso (a := Kd.pair (Kd.int .i64) (Kd.slice 50 k50)) (oka := fun x => (Lit.int .i64 x.1).wf = true ∧ ∀ f ∈ x.2, f.f0.size ≤ 9223372036854775807 ∧ f.f1.size ≤ 9223372036854775807) (fun x : S31 => (x.f0, x.f1)) (fun p => ⟨p.1, p.2⟩) (fun _ => rfl)
    (opens_struct2 Tryz.underlying31 rfl rfl (by kernel_rfl) opens_int3 (opens_slice Tryz.underlying29 (by kernel_rfl) opens_field (by decide)))
set_option maxRecDepth 100000 in
theorem open_docs {H : Type} {enc : TypeId × Value → H} {w : World} {base b0 : Nat} {held : Bool} {r : Reach} {v : Value} {d : DataW H} {ps : List MemPlace}
    (hval : Value.okWide Tryz.prog w r b0 22 v) (hd : DataW.Trod enc Tryz.prog w base (fun _ => true) held 22 v d ps) :
    ∃ (l : List S31) (A : Option Addr) (c : Nat), v = .slice A l.length c ∧ (∀ x ∈ l, okD x) ∧ l.length ≤ c ∧ Kd.C k31 w A l.length l := open_args Tryz.underlying22 (by kernel_rfl) opens_doc (by decide) hval hd
/-- What the walks ask. -/
theorem docs_bounds {w : World} {A : Option Addr} {l : List S31} (hr : Kd.C k31 w A l.length l) (hs : ∀ x ∈ l, okD x) : l.length ≤ 9223372036854775807 ∧ ∀ q ∈ l, q.f1.length ≤ 9223372036854775807 ∧ ∀ f ∈ q.f1, f.f0.size ≤ 9223372036854775807 := by
  refine ⟨hr.2.1, fun q hq => ⟨?_, fun f hf => ((hs q hq).2 f hf).1⟩⟩
  obtain ⟨i, hi, rfl⟩ := List.mem_iff_getElem.1 hq
  obtain ⟨ad, A1, c1, _, _, _, _, hc⟩ := at_T31 hr (i : Int) (by omega) (by omega)
  have hx : rd_T31 l (i : Int) = l[i] := by unfold rd_T31; rw [Int.toNat_natCast, List.getD_eq_getElem?_getD, List.getElem?_eq_getElem hi]; rfl
  rw [hx] at hc
  exact hc.2.1
end Go.Proofs.YteidebllianiiaaGreatDoor
