/- Joined: WordPlain, Refs, WordRefs, DocP, DocG, DocH, DocT, Lives. -/
import Derived.Test.YtbbfilmajiilhaaBnd0
import Derived.Test.YtbbfilmajiilhaaPAllx2
import Derived.Test.YtbbfilmajiilhaaPAllx3
import Derived.Test.YtbbfilmajiilhaaWNEv
import Derived.Test.YtbbfilmajiilhaaPAllx4
import Derived.Test.YtbbfilmajiilhaaPAllx6
import Derived.Test.YtbbfilmajiilhaaPAllx5
import Derived.Test.YtbbfilmajiilhaaPAllx8
import Derived.Test.YtbbfilmajiilhaaPAllx9
import Derived.Test.YtbbfilmajiilhaaPAllx10
set_option linter.unusedVariables false
set_option linter.unusedSimpArgs false
/-! Words of characters: plain lists. -/
set_option linter.unusedVariables false
set_option linter.unusedSimpArgs false
namespace Go.Proofs.Ytbbfilmajiilhaa
open Go.RowKit

theorem inB_32 : inB 32 = false := by decide

theorem stepW_out (st : List ByteArray × List Int) (c : Int) (h : inB c = false) : stepW st c = (if 0 < st.2.length then st.1 ++ [strOf st.2] else st.1, []) := by unfold stepW; rw [h]; rfl

/-! A blank behind bytes: no sign of theirs turns. -/

end Go.Proofs.Ytbbfilmajiilhaa

/-! The references of layer 1, as printed: what they tell. -/
set_option linter.unusedVariables false
set_option linter.unusedSimpArgs false
namespace Go.Proofs.Ytbbfilmajiilhaa
open Go.RowKit Go.Proofs.Ytbbfilmajiilhaa.PAll Go.Proofs.YtbbfilmajiilhaaW.PrintWords Go.Proofs.YtbbfilmajiilhaaW.PrintLast

theorem Ev.pos {α : Type} {c : Prop} [Decidable c] {g f : Nat → Option α} {r : α} (h : c) (k : Ev g r) : Ev (fun n => if c then g n else f n) r := by simpa only [if_pos h] using k
theorem Ev.neg {α : Type} {c : Prop} [Decidable c] {g f : Nat → Option α} {r : α} (h : ¬ c) (k : Ev f r) : Ev (fun n => if c then g n else f n) r := by simpa only [if_neg h] using k
theorem Ev.ret {α : Type} {a r : α} (h : a = r) : Ev (fun _ => some a) r := h ▸ Ev.now a
theorem wrap_small (n : Int) (h : -9223372036854775808 ≤ n ∧ n ≤ 9223372036854775807) : wrap64 n = n := by unfold wrap64; omega

/-! ### Same -/
/-! ### one -/
theorem bt_byt (s : ByteArray) (i : Nat) : bt s i = byt s.data.toList i := by
  unfold bt byt
  simp only [Int.toNat_natCast]
  split
  · rename_i h
    rw [List.getD_eq_getElem?_getD, Array.getElem?_toList, Array.getElem?_eq_getElem (by exact h)]
    rfl
  · rename_i h
    rw [List.getD_eq_getElem?_getD, Array.getElem?_toList, Array.getElem?_eq_none (by have : s.data.size = s.size := rfl; omega)]
    rfl
theorem size_data (s : ByteArray) : s.data.toList.length = s.size := Array.length_toList

theorem bt_r (s : ByteArray) (i : Int) : 0 ≤ bt s i ∧ bt s i ≤ 255 := bt_range s i
theorem wrap_bt (s : ByteArray) (i : Int) : wrap64 (bt s i) = bt s i := wrap_small _ (by have := bt_r s i; omega)

/-- The loop over the bytes behind the first one, and what stands behind it: from place i on, v so far. -/
def oneTail (s : ByteArray) (n least v i : Int) : Nat → Int × Int
  | 0 => if v < least then (65533, 1) else if v > 1114111 then (65533, 1) else if 55296 ≤ v ∧ v ≤ 57343 then (65533, 1) else (v, n)
  | d + 1 => if bt s i < 128 then (65533, 1) else if bt s i ≥ 192 then (65533, 1) else oneTail s n least (64 * v + bt s i - 128) (i + 1) d

def bnd : Nat → Int
  | 0 => 1099511627776
  | d + 1 => bnd d / 64 - 2
theorem bnd_le (d : Nat) : bnd d ≤ 1099511627776 := by
  induction d with
  | zero => decide
  | succ d ih => unfold bnd; omega

theorem one_loop (s : ByteArray) (n least : Int) (hn : n ≤ s.size) (hn4 : n ≤ 4) (d : Nat) : ∀ v i : Int, 1 ≤ i → i + d = n → 0 ≤ v → v ≤ bnd d →
    Ev (fun k => concordanceref01_one.l0 k s n least v i) (oneTail s n least v i d) := by
  induction d with
  | zero =>
    intro v i h1 hi _ _
    refine Ev.step (fun k => by rw [concordanceref01_one.l0]) (Ev.neg (by omega) ?_)
    unfold oneTail
    by_cases c1 : v < least
    · refine Ev.pos c1 (Ev.ret (by rw [if_pos c1]))
    · refine Ev.neg c1 ?_
      rw [if_neg c1]
      by_cases c2 : v > 1114111
      · refine Ev.pos c2 (Ev.ret (by rw [if_pos c2]))
      · refine Ev.neg c2 ?_
        rw [if_neg c2]
        by_cases c3 : v ≥ 55296
        · refine Ev.pos c3 ?_
          by_cases c4 : v ≤ 57343
          · exact Ev.pos c4 (Ev.ret (by rw [if_pos ⟨by omega, c4⟩]))
          · exact Ev.neg c4 (Ev.ret (by rw [if_neg (by omega)]))
        · exact Ev.neg c3 (Ev.ret (by rw [if_neg (by omega)]))
  | succ d ih =>
    intro v i h1 hi h0 hv
    have hb := bt_r s i
    have hbd := bnd_le d
    have hbs : bnd (d + 1) = bnd d / 64 - 2 := rfl
    refine Ev.step (fun k => by rw [concordanceref01_one.l0, wrap_bt]) (Ev.pos (by omega) (Ev.pos (by omega) (Ev.pos (by omega) ?_)))
    unfold oneTail
    by_cases c1 : bt s i < 128
    · exact Ev.pos c1 (Ev.ret (by rw [if_pos c1]))
    · refine Ev.neg c1 ?_
      rw [if_neg c1]
      by_cases c2 : bt s i ≥ 192
      · exact Ev.pos c2 (Ev.ret (by rw [if_pos c2]))
      · refine Ev.neg c2 ?_
        rw [if_neg c2, wrap_small (64 * v) (by omega), wrap_small (64 * v + bt s i) (by omega), wrap_small (64 * v + bt s i - 128) (by omega), wrap_small (i + 1) (by omega)]
        exact ih (64 * v + bt s i - 128) (i + 1) (by omega) (by omega) (by omega) (by omega)

/-- The class of the first byte: how many bytes, the least number, the number so far. -/
theorem one_rest (s : ByteArray) (n least v : Int) (hn : n = 0 ∨ (2 ≤ n ∧ n ≤ 4)) (h0 : 0 ≤ v) (hv : v ≤ 1000) :
    Ev (fun k => concordanceref01_one.j2 k s n least v) (if n = 0 ∨ (s.size : Int) < n then (65533, 1) else oneTail s n least v 1 (n - 1).toNat) := by
  refine Ev.step (fun k => by rw [concordanceref01_one.j2]) ?_
  by_cases c : n = 0
  · refine Ev.pos c (Ev.step (fun k => by rw [concordanceref01_one.j3]) (Ev.pos rfl (Ev.ret (by rw [if_pos (.inl c)]))))
  · refine Ev.neg c (Ev.step (fun k => by rw [concordanceref01_one.j3]) ?_)
    by_cases c2 : (s.size : Int) < n
    · exact Ev.pos (decide_eq_true c2) (Ev.ret (by rw [if_pos (.inr c2)]))
    · refine Ev.neg (by simpa using c2) ?_
      rw [if_neg (by omega)]
      refine one_loop s n least (by omega) (by omega) (n - 1).toNat v 1 (by omega) (by omega) h0 ?_
      have hd : (n - 1).toNat = 1 ∨ (n - 1).toNat = 2 ∨ (n - 1).toNat = 3 := by omega
      rcases hd with h | h | h <;> rw [h]
      · exact Int.le_trans hv (by decide)
      · exact Int.le_trans hv (by decide)
      · exact Int.le_trans hv (by decide)

/-- What 'one' tells of bytes that are some. -/
def oneVal (s : ByteArray) : Int × Int :=
  if bt s 0 < 128 then (bt s 0, 1)
  else if 194 ≤ bt s 0 ∧ bt s 0 < 224 then (if (s.size : Int) < 2 then (65533, 1) else oneTail s 2 128 (bt s 0 - 192) 1 1)
  else if 224 ≤ bt s 0 ∧ bt s 0 < 240 then (if (s.size : Int) < 3 then (65533, 1) else oneTail s 3 2048 (bt s 0 - 224) 1 2)
  else if 240 ≤ bt s 0 ∧ bt s 0 < 245 then (if (s.size : Int) < 4 then (65533, 1) else oneTail s 4 65536 (bt s 0 - 240) 1 3)
  else (65533, 1)

theorem one_val (s : ByteArray) (h : 0 < s.size) : Ev (fun k => concordanceref01_one.f k s) (oneVal s) := by
  have hb := bt_r s 0
  have r0 := one_rest s 0 0 0 (.inl rfl) (by omega) (by omega)
  rw [if_pos (.inl rfl)] at r0
  unfold concordanceref01_one.f oneVal
  rw [wrap_bt]
  refine Ev.pos (by omega) ?_
  by_cases c1 : bt s 0 < 128
  · exact Ev.pos c1 (Ev.ret (by rw [if_pos c1]))
  refine Ev.neg c1 ?_
  rw [if_neg c1]
  by_cases c2 : bt s 0 ≥ 194
  · refine Ev.pos c2 (Ev.step (fun k => by rw [concordanceref01_one.j0]) ?_)
    by_cases c3 : bt s 0 < 224
    · rw [if_pos ⟨c2, c3⟩]
      refine Ev.pos (decide_eq_true c3) ?_
      rw [wrap_small _ (by omega)]
      have := one_rest s 2 128 (bt s 0 - 192) (by omega) (by omega) (by omega)
      by_cases c4 : (s.size : Int) < 2
      · rw [if_pos c4]; rw [if_pos (.inr c4)] at this; exact this
      · rw [if_neg c4]; rw [if_neg (by omega)] at this; exact this
    · rw [if_neg (by omega)]
      refine Ev.neg (by simpa using c3) (Ev.pos (by omega) (Ev.step (fun k => by rw [concordanceref01_one.j1]) ?_))
      by_cases c5 : bt s 0 < 240
      · rw [if_pos ⟨by omega, c5⟩]
        refine Ev.pos (decide_eq_true c5) ?_
        rw [wrap_small _ (by omega)]
        have := one_rest s 3 2048 (bt s 0 - 224) (by omega) (by omega) (by omega)
        by_cases c4 : (s.size : Int) < 3
        · rw [if_pos c4]; rw [if_pos (.inr c4)] at this; exact this
        · rw [if_neg c4]; rw [if_neg (by omega)] at this; exact this
      · rw [if_neg (by omega)]
        refine Ev.neg (by simpa using c5) (Ev.pos (by omega) ?_)
        by_cases c6 : bt s 0 < 245
        · rw [if_pos ⟨by omega, c6⟩]
          refine Ev.pos c6 ?_
          rw [wrap_small _ (by omega)]
          have := one_rest s 4 65536 (bt s 0 - 240) (by omega) (by omega) (by omega)
          by_cases c4 : (s.size : Int) < 4
          · rw [if_pos c4]; rw [if_pos (.inr c4)] at this; exact this
          · rw [if_neg c4]; rw [if_neg (by omega)] at this; exact this
        · rw [if_neg (by omega)]
          exact Ev.neg c6 r0
  · rw [if_neg (by omega), if_neg (by omega), if_neg (by omega)]
    refine Ev.neg c2 (Ev.step (fun k => by rw [concordanceref01_one.j0]) (Ev.neg (by simp) (Ev.neg (by omega) (Ev.step (fun k => by rw [concordanceref01_one.j1]) (Ev.neg (by simp) (Ev.neg (by omega) r0))))))

set_option maxHeartbeats 4000000 in
theorem oneVal_dec (s : ByteArray) (_h : 0 < s.size) : oneVal s = (((dec s.data.toList).1 : Int), ((dec s.data.toList).2 : Int)) := by
  have e0 : bt s 0 = (byt s.data.toList 0 : Int) := bt_byt s 0
  have e1 : bt s 1 = (byt s.data.toList 1 : Int) := bt_byt s 1
  have e2 : bt s 2 = (byt s.data.toList 2 : Int) := bt_byt s 2
  have e3 : bt s 3 = (byt s.data.toList 3 : Int) := bt_byt s 3
  have h0 := byt_lt s.data.toList 0; have h1 := byt_lt s.data.toList 1; have h2 := byt_lt s.data.toList 2; have h3 := byt_lt s.data.toList 3
  have t1 : ∀ n least v : Int, oneTail s n least v 1 1 = if bt s 1 < 128 then (65533, 1) else if bt s 1 ≥ 192 then (65533, 1) else oneTail s n least (64 * v + bt s 1 - 128) 2 0 := fun _ _ _ => rfl
  have t2 : ∀ n least v : Int, oneTail s n least v 1 2 = if bt s 1 < 128 then (65533, 1) else if bt s 1 ≥ 192 then (65533, 1) else if bt s 2 < 128 then (65533, 1) else if bt s 2 ≥ 192 then (65533, 1) else oneTail s n least (64 * (64 * v + bt s 1 - 128) + bt s 2 - 128) 3 0 := fun _ _ _ => rfl
  have t3 : ∀ n least v : Int, oneTail s n least v 1 3 = if bt s 1 < 128 then (65533, 1) else if bt s 1 ≥ 192 then (65533, 1) else if bt s 2 < 128 then (65533, 1) else if bt s 2 ≥ 192 then (65533, 1) else if bt s 3 < 128 then (65533, 1) else if bt s 3 ≥ 192 then (65533, 1) else oneTail s n least (64 * (64 * (64 * v + bt s 1 - 128) + bt s 2 - 128) + bt s 3 - 128) 4 0 := fun _ _ _ => rfl
  have t0 : ∀ n least v i : Int, oneTail s n least v i 0 = if v < least then (65533, 1) else if v > 1114111 then (65533, 1) else if 55296 ≤ v ∧ v ≤ 57343 then (65533, 1) else (v, n) := fun _ _ _ _ => rfl
  unfold oneVal
  rw [t1, t2, t3, t0, t0, t0, e0, e1, e2, e3]
  unfold dec
  rw [size_data]
  clear t0 t1 t2 t3 e0 e1 e2 e3
  generalize byt s.data.toList 0 = b0 at *
  generalize byt s.data.toList 1 = b1 at *
  generalize byt s.data.toList 2 = b2 at *
  generalize byt s.data.toList 3 = b3 at *
  generalize s.size = n at *
  clear s
  unfold Lib.decodeN
  by_cases c1 : b0 < 128
  · rw [if_pos (by omega), if_pos c1]; rfl
  rw [if_neg (by omega), if_neg c1]
  by_cases c2 : b0 < 192
  · rw [if_neg (by omega), if_neg (by omega), if_neg (by omega), if_neg (by omega), if_neg (by omega), if_neg (by omega)]; rfl
  by_cases c3 : b0 < 224
  · rw [if_neg (show ¬ (224 ≤ (b0 : Int) ∧ (b0 : Int) < 240) by omega), if_neg (show ¬ (240 ≤ (b0 : Int) ∧ (b0 : Int) < 245) by omega),
      if_neg (show ¬ (b0 / 16 = 14 ∧ (1 < n ∧ b1 / 64 = 2) ∧ (2 < n ∧ b2 / 64 = 2)) by omega), if_neg (show ¬ (b0 / 8 = 30 ∧ (1 < n ∧ b1 / 64 = 2) ∧ (2 < n ∧ b2 / 64 = 2) ∧ (3 < n ∧ b3 / 64 = 2)) by omega)]
    repeat' split
    all_goals first | rfl | (exfalso; omega) | (simp only [Prod.mk.injEq]; omega)
  by_cases c6 : b0 < 240
  · rw [if_neg (show ¬ (194 ≤ (b0 : Int) ∧ (b0 : Int) < 224) by omega), if_pos (show 224 ≤ (b0 : Int) ∧ (b0 : Int) < 240 by omega), if_neg (show ¬ (b0 / 32 = 6 ∧ (1 < n ∧ b1 / 64 = 2)) by omega),
      if_neg (show ¬ (b0 / 8 = 30 ∧ (1 < n ∧ b1 / 64 = 2) ∧ (2 < n ∧ b2 / 64 = 2) ∧ (3 < n ∧ b3 / 64 = 2)) by omega)]
    repeat' split
    all_goals first | rfl | (exfalso; omega) | (simp only [Prod.mk.injEq]; omega)
  rw [if_neg (show ¬ (194 ≤ (b0 : Int) ∧ (b0 : Int) < 224) by omega), if_neg (show ¬ (224 ≤ (b0 : Int) ∧ (b0 : Int) < 240) by omega), if_neg (show ¬ (b0 / 32 = 6 ∧ (1 < n ∧ b1 / 64 = 2)) by omega), if_neg (show ¬ (b0 / 16 = 14 ∧ (1 < n ∧ b1 / 64 = 2) ∧ (2 < n ∧ b2 / 64 = 2)) by omega)]
  by_cases c8 : (1 < n ∧ b1 / 64 = 2) ∧ (2 < n ∧ b2 / 64 = 2) ∧ (3 < n ∧ b3 / 64 = 2)
  · by_cases c9 : b0 < 248
    · rw [if_pos (show b0 / 8 = 30 ∧ (1 < n ∧ b1 / 64 = 2) ∧ (2 < n ∧ b2 / 64 = 2) ∧ (3 < n ∧ b3 / 64 = 2) from ⟨by omega, c8⟩)]
      have ev : (64 * (64 * (64 * ((b0 : Int) - 240) + b1 - 128) + b2 - 128) + b3 - 128) = ((b0 % 8 * 262144 + b1 % 64 * 4096 + b2 % 64 * 64 + b3 % 64 : Nat) : Int) := by omega
      have ev2 : 245 ≤ b0 → 1114111 < b0 % 8 * 262144 + b1 % 64 * 4096 + b2 % 64 * 64 + b3 % 64 := by omega
      rw [ev]
      generalize b0 % 8 * 262144 + b1 % 64 * 4096 + b2 % 64 * 64 + b3 % 64 = v at *
      repeat' split
      all_goals first | rfl | (exfalso; omega)
    · rw [if_neg (show ¬ (b0 / 8 = 30 ∧ (1 < n ∧ b1 / 64 = 2) ∧ (2 < n ∧ b2 / 64 = 2) ∧ (3 < n ∧ b3 / 64 = 2)) by omega), if_neg (show ¬ (240 ≤ (b0 : Int) ∧ (b0 : Int) < 245) by omega)]; rfl
  · rw [if_neg (show ¬ (b0 / 8 = 30 ∧ (1 < n ∧ b1 / 64 = 2) ∧ (2 < n ∧ b2 / 64 = 2) ∧ (3 < n ∧ b3 / 64 = 2)) from fun h => c8 h.2)]
    by_cases c9 : 240 ≤ (b0 : Int) ∧ (b0 : Int) < 245
    · rw [if_pos c9]
      by_cases d0 : (n : Int) < 4
      · rw [if_pos d0]; rfl
      rw [if_neg d0]
      by_cases d1 : (b1 : Int) < 128
      · rw [if_pos d1]; rfl
      rw [if_neg d1]
      by_cases d2 : (b1 : Int) ≥ 192
      · rw [if_pos d2]; rfl
      rw [if_neg d2]
      by_cases d3 : (b2 : Int) < 128
      · rw [if_pos d3]; rfl
      rw [if_neg d3]
      by_cases d4 : (b2 : Int) ≥ 192
      · rw [if_pos d4]; rfl
      rw [if_neg d4]
      by_cases d5 : (b3 : Int) < 128
      · rw [if_pos d5]; rfl
      rw [if_neg d5]
      by_cases d6 : (b3 : Int) ≥ 192
      · rw [if_pos d6]; rfl
      omega
    · rw [if_neg c9]; rfl

theorem one_ev (s : ByteArray) (h : 0 < s.size) : Ev (fun k => concordanceref01_one.f k s) (((dec s.data.toList).1 : Int), ((dec s.data.toList).2 : Int)) := by
  rw [← oneVal_dec s h]; exact one_val s h
/-! ### Signs -/
theorem drop_data (s : ByteArray) (n : Nat) : (s.extract n s.size).data.toList = s.data.toList.drop n := by
  rw [ByteArray.data_extract, Array.toList_extract]
  have : s.data.size = s.size := rfl
  rw [← this]
  simp [List.take_of_length_le]
theorem rsigns_loop (d : Nat) : ∀ (s : ByteArray) (acc : List Int), s.size ≤ d → s.size + acc.length ≤ 1000000000000 →
    Ev (fun k => concordanceref01_Signs.l0 k s acc) (acc ++ signs s.data.toList) := by
  induction d with
  | zero =>
    intro s acc hd _
    refine Ev.step (fun k => by rw [concordanceref01_Signs.l0]) (Ev.neg (by omega) (Ev.ret ?_))
    have : s.data.toList = [] := List.eq_nil_of_length_eq_zero (by rw [size_data]; omega)
    rw [this, signs_nil, List.append_nil]
  | succ d ih =>
    intro s acc hd hl
    by_cases h0 : s.size = 0
    · refine Ev.step (fun k => by rw [concordanceref01_Signs.l0]) (Ev.neg (by omega) (Ev.ret ?_))
      have : s.data.toList = [] := List.eq_nil_of_length_eq_zero (by rw [size_data]; omega)
      rw [this, signs_nil, List.append_nil]
    · have hw := dec_width s.data.toList (by rw [size_data]; omega)
      rw [size_data] at hw
      refine Ev.step (fun k => by rw [concordanceref01_Signs.l0]) (Ev.pos (by omega) (Ev.bind (one_ev s (by omega)) ?_))
      dsimp only
      refine Ev.pos (by omega) (Ev.pos (by omega) (Ev.pos (by omega) ?_))
      rw [Int.toNat_natCast, signs_step s.data.toList (by rw [size_data]; omega), ← drop_data]
      have hsz : (s.extract (dec s.data.toList).2 s.size).size = s.size - (dec s.data.toList).2 := by rw [← size_data, drop_data, List.length_drop, size_data]
      have hi := ih (s.extract (dec s.data.toList).2 s.size) (acc ++ [((dec s.data.toList).1 : Int)]) (by rw [hsz]; omega) (by rw [List.length_append, hsz]; simp; omega)
      rw [List.append_assoc, List.singleton_append] at hi
      exact hi
theorem rsigns_ev (s : ByteArray) (h : s.size ≤ 1000000000000) : Ev (fun k => concordanceref01_Signs.f k s) (signs s.data.toList) := by
  unfold concordanceref01_Signs.f
  have := rsigns_loop s.size s [] (Nat.le_refl _) (by simpa using h)
  simpa using this

/-! ### Text -/
def numsOf (l : List UInt8) : List Int := l.map (fun b => (b.toNat : Int))
theorem numsOf_append (a b : List UInt8) : numsOf (a ++ b) = numsOf a ++ numsOf b := List.map_append
theorem numsOf_length (a : List UInt8) : (numsOf a).length = a.length := List.length_map _
theorem str_nums (l : List UInt8) : strOfNums (numsOf l) = ⟨l.toArray⟩ := by
  unfold strOfNums numsOf
  rw [List.map_map]
  congr 2
  refine (List.map_congr_left (fun b _ => ?_)).trans (List.map_id _)
  simp [Function.comp]
theorem nums_encode (c : Int) : numsOf (Lib.encodeRune c) = Lib.encodeRuneZ c := by
  unfold numsOf Lib.encodeRune
  rw [List.map_map]
  have : ∀ x ∈ Lib.encodeRuneZ c, ((fun b : UInt8 => (b.toNat : Int)) ∘ fun x : Int => x.toNat.toUInt8) x = x := by
    intro x hx
    have hb := Lib.encodeRuneZ_byte c x hx
    simp only [Function.comp]
    rw [toU8 x hb.1 hb.2]
    omega
  exact (List.map_congr_left this).trans (List.map_id _)

theorem text_j2 (l : List Int) (acc : List UInt8) (i : Nat) (c : Int) (r : ByteArray) (hi : i < l.length) (hl : l.length ≤ 1000000000000) (ha : acc.length ≤ 4 * i) (hc : okChar c)
    (h : Ev (fun k => concordanceref01_Text.l0 k l (numsOf (acc ++ Lib.encodeRune c)) ((i + 1 : Nat) : Int)) r) : Ev (fun k => concordanceref01_Text.j2 k l (numsOf acc) i c) r := by
  unfold okChar at hc
  have hw : wrap64 ((i : Int) + 1) = ((i + 1 : Nat) : Int) := by rw [wrap_small _ (by omega)]; omega
  have hln := numsOf_length acc
  refine Ev.step (fun k => by rw [concordanceref01_Text.j2]) ?_
  rw [hw]
  rw [numsOf_append, nums_encode] at h
  by_cases c1 : c < 128
  · refine Ev.pos c1 (Ev.pos (by omega) ?_)
    rw [Lib.encodeRuneZ_one (by omega) (by omega)] at h
    rw [show c % 256 = c by omega]
    exact h
  refine Ev.neg c1 ?_
  by_cases c2 : c < 2048
  · refine Ev.pos c2 (Ev.bind (Ev.now _) (Ev.pos (by simp; omega) ?_))
    rw [Lib.encodeRuneZ_two (by omega) (by omega)] at h
    rw [show Int.tdiv c 64 = c / 64 from Int.tdiv_eq_ediv_of_nonneg (by omega), show Int.tmod c 64 = c % 64 from Int.tmod_eq_emod_of_nonneg (by omega), wrap_small (c / 64) (by omega), wrap_small (192 + c / 64) (by omega), wrap_small (128 + c % 64) (by omega), show (192 + c / 64) % 256 = 192 + c / 64 by omega, show (128 + c % 64) % 256 = 128 + c % 64 by omega]
    exact h
  refine Ev.neg c2 ?_
  by_cases c3 : c < 65536
  · refine Ev.pos c3 (Ev.bind (Ev.now _) (Ev.pos (by simp; omega) ?_))
    rw [Lib.encodeRuneZ_three (by omega)] at h
    rw [show Int.tdiv c 4096 = c / 4096 from Int.tdiv_eq_ediv_of_nonneg (by omega), show Int.tdiv c 64 = c / 64 from Int.tdiv_eq_ediv_of_nonneg (by omega), show Int.tmod c 64 = c % 64 from Int.tmod_eq_emod_of_nonneg (by omega), wrap_small (c / 64) (by omega), wrap_small (c / 4096) (by omega), show Int.tmod (c / 64) 64 = c / 64 % 64 from Int.tmod_eq_emod_of_nonneg (by omega),
      wrap_small (224 + c / 4096) (by omega), wrap_small (128 + c / 64 % 64) (by omega), wrap_small (128 + c % 64) (by omega), show (224 + c / 4096) % 256 = 224 + c / 4096 by omega, show (128 + c / 64 % 64) % 256 = 128 + c / 64 % 64 by omega, show (128 + c % 64) % 256 = 128 + c % 64 by omega]
    exact h
  refine Ev.neg c3 (Ev.bind (Ev.now _) (Ev.pos (by simp; omega) ?_))
  rw [Lib.encodeRuneZ_four (by omega) (by omega)] at h
  rw [show Int.tdiv c 262144 = c / 262144 from Int.tdiv_eq_ediv_of_nonneg (by omega), show Int.tdiv c 4096 = c / 4096 from Int.tdiv_eq_ediv_of_nonneg (by omega), show Int.tdiv c 64 = c / 64 from Int.tdiv_eq_ediv_of_nonneg (by omega), show Int.tmod c 64 = c % 64 from Int.tmod_eq_emod_of_nonneg (by omega), wrap_small (c / 64) (by omega), wrap_small (c / 4096) (by omega), wrap_small (c / 262144) (by omega),
    show Int.tmod (c / 64) 64 = c / 64 % 64 from Int.tmod_eq_emod_of_nonneg (by omega), show Int.tmod (c / 4096) 64 = c / 4096 % 64 from Int.tmod_eq_emod_of_nonneg (by omega),
    wrap_small (240 + c / 262144) (by omega), wrap_small (128 + c / 4096 % 64) (by omega), wrap_small (128 + c / 64 % 64) (by omega), wrap_small (128 + c % 64) (by omega), show (240 + c / 262144) % 256 = 240 + c / 262144 by omega, show (128 + c / 4096 % 64) % 256 = 128 + c / 4096 % 64 by omega, show (128 + c / 64 % 64) % 256 = 128 + c / 64 % 64 by omega, show (128 + c % 64) % 256 = 128 + c % 64 by omega]
  exact h

theorem text_loop (l : List Int) (hl : l.length ≤ 1000000000000) (d : Nat) : ∀ i : Nat, i + d = l.length →
    Ev (fun k => concordanceref01_Text.l0 k l (numsOf (text (l.take i))) (i : Int)) ⟨(text l).toArray⟩ := by
  induction d with
  | zero =>
    intro i hi
    refine Ev.step (fun k => by rw [concordanceref01_Text.l0]) (Ev.neg (by omega) (Ev.ret ?_))
    rw [str_nums, List.take_of_length_le (by omega)]
  | succ d ih =>
    intro i hi
    have hlt : i < l.length := by omega
    have hr : rd l i = l[i] := by unfold rd; simp; rw [List.getElem?_eq_getElem (by omega)]; rfl
    have htl := text_length (l.take i)
    have htk : (l.take i).length ≤ i := List.length_take_le _ _
    have hn := ih (i + 1) (by omega)
    rw [List.take_succ_eq_append_getElem hlt, text_append, ← hr, show text [rd l i] = Lib.encodeRune (rd l i) by simp [text], ← encode_good] at hn
    have hj := text_j2 l (text (l.take i)) i (good (rd l i)) _ hlt hl (by omega) (good_ok _) hn
    have bad : ¬ okChar (rd l i) → Ev (fun k => concordanceref01_Text.j1 k l (numsOf (text (l.take i))) i (rd l i) true) ⟨(text l).toArray⟩ := fun hb => by
      rw [show good (rd l i) = 65533 from if_neg hb] at hj
      exact Ev.step (fun k => by rw [concordanceref01_Text.j1]) (Ev.pos rfl hj)
    have ok : okChar (rd l i) → ∀ b, b = false → Ev (fun k => concordanceref01_Text.j1 k l (numsOf (text (l.take i))) i (rd l i) b) ⟨(text l).toArray⟩ := fun hb b e => by
      subst e
      rw [good_of_ok hb] at hj
      exact Ev.step (fun k => by rw [concordanceref01_Text.j1]) (Ev.neg (by simp) hj)
    refine Ev.step (fun k => by rw [concordanceref01_Text.l0]) (Ev.pos (by omega) (Ev.pos (by omega) ?_))
    by_cases c1 : rd l i < 0
    · exact Ev.pos c1 (bad (by unfold okChar; omega))
    refine Ev.neg c1 ?_
    by_cases c2 : rd l i > 1114111
    · exact Ev.pos c2 (bad (by unfold okChar; omega))
    refine Ev.neg c2 ?_
    by_cases c3 : rd l i ≥ 55296
    · refine Ev.pos c3 ?_
      by_cases c4 : rd l i ≤ 57343
      · rw [decide_eq_true c4]; exact bad (by unfold okChar; omega)
      · exact ok (by unfold okChar; omega) _ (decide_eq_false c4)
    · exact Ev.neg c3 (ok (by unfold okChar; omega) _ rfl)
theorem rtext_ev (l : List Int) (h : l.length ≤ 1000000000000) : Ev (fun k => concordanceref01_Text.f k l) ⟨(text l).toArray⟩ := by
  unfold concordanceref01_Text.f
  exact text_loop l h l.length 0 (by omega)
end Go.Proofs.Ytbbfilmajiilhaa

/-! The document's words, as printed: what they tell. -/
set_option linter.unusedVariables false
set_option linter.unusedSimpArgs false
namespace Go.Proofs.Ytbbfilmajiilhaa
open Go.RowKit Go.Proofs.Ytbbfilmajiilhaa.PAll Go.Proofs.YtbbfilmajiilhaaW.PrintWords Go.Proofs.YtbbfilmajiilhaaW.PrintLast

theorem Ev.const {α β : Type} {o : Option α} {a : α} {f : Nat → α → Option β} {r : β} (h : o = some a) (k : Ev (fun n => f n a) r) : Ev (fun n => o.bind (f n)) r := by subst h; exact k
theorem rd_nat (l : List Int) (i : Nat) (h : i < l.length) : rd l i = l[i] := by unfold rd; simp; rw [List.getElem?_eq_getElem h]; rfl
theorem rdS_nat (l : List ByteArray) (i : Nat) (h : i < l.length) : rdOf ByteArray.empty l i = l[i] := by unfold rdOf; simp; rw [List.getElem?_eq_getElem h]; rfl

theorem rfold_f (c : Int) : concordanceref01_Fold.f c = some (fold c) := by
  unfold concordanceref01_Fold.f fold
  repeat' split
  all_goals first | rfl | (exfalso; omega) | (rw [wrap_small _ (by omega)]) | skip
theorem rletter_f (c : Int) : concordanceref01_Letter.f c = some (letterB c) := by
  unfold concordanceref01_Letter.f letterB
  repeat' split
  all_goals
    congr 1
    rw [Bool.eq_iff_iff]
    simp
    try omega
theorem rin_f (c : Int) : concordanceref02_in.f c = some (inB c) := by
  unfold concordanceref02_in.f
  rw [rletter_f, Option.bind_some]
  unfold inB digitB
  cases letterB c
  · rw [if_neg (by decide)]
    by_cases h : c ≥ 48
    · rw [if_pos h]; congr 1; rw [Bool.eq_iff_iff]; simp; omega
    · rw [if_neg h]; congr 1; rw [Bool.eq_iff_iff]; simp; omega
  · rfl

theorem same_loop (a : List ByteArray) (hl : a.length ≤ 1000000000000) (d : Nat) : ∀ i : Nat, i + d = a.length → Ev (fun k => concordanceref02_Same.l0 k a a (i : Int)) true := by
  induction d with
  | zero =>
    intro i hi
    exact Ev.step (fun k => by rw [concordanceref02_Same.l0]) (Ev.neg (by omega) (Ev.ret rfl))
  | succ d ih =>
    intro i hi
    have hg := ih (i + 1) (by omega)
    refine Ev.step (fun k => by rw [concordanceref02_Same.l0, wrap_small (i + 1) (by omega)]) ?_
    exact Ev.pos (by omega) (Ev.pos (by omega) (Ev.pos (by omega) (Ev.pos rfl (by exact_mod_cast hg))))

/-- The words of what is left, some being whole, and one under way. -/
def rest (outs : List ByteArray) (own l : List Int) : List ByteArray := (stepW (l.foldl stepW (outs, own)) 32).1
theorem rest_nil (outs : List ByteArray) (own : List Int) : rest outs own [] = if 0 < own.length then outs ++ [strOf own] else outs := by
  unfold rest; rw [List.foldl_nil, stepW_out _ 32 inB_32]
theorem rest_in (outs : List ByteArray) (own l : List Int) (c : Int) (h : inB c = true) : rest outs own (c :: l) = rest outs (own ++ [fold c]) l := by
  unfold rest; rw [List.foldl_cons]; unfold stepW; rw [if_pos h]
theorem rest_out (outs : List ByteArray) (own l : List Int) (c : Int) (h : inB c = false) : rest outs own (c :: l) = rest (if 0 < own.length then outs ++ [strOf own] else outs) [] l := by
  unfold rest; rw [List.foldl_cons, stepW_out _ c h]

theorem rwords_loop (l : List Int) (hl : l.length ≤ 1000000000) (d : Nat) : ∀ i : Nat, i + d = l.length →
    (∀ (outs : List ByteArray) (own : List Int), outs.length + own.length ≤ i → (0 < own.length ∨ ∃ h : i < l.length, inB l[i] = true) → Ev (fun k => concordanceref02_Words.l1 k l outs (i : Int) own) (rest outs own (l.drop i))) ∧
    (∀ outs : List ByteArray, outs.length ≤ i → Ev (fun k => concordanceref02_Words.l0 k l outs (i : Int)) (rest outs [] (l.drop i))) := by
  induction d with
  | zero =>
    intro i hi
    have e : l.drop i = [] := List.drop_eq_nil_of_le (by omega)
    rw [e]
    refine ⟨fun outs own ho hc => ?_, fun outs ho => ?_⟩
    · have hp : 0 < own.length := by rcases hc with h | ⟨h, _⟩ <;> omega
      rw [rest_nil, if_pos hp]
      refine Ev.step (fun k => by rw [concordanceref02_Words.l1, wrap_small (i + 1) (by omega)]) (Ev.neg (by omega) ?_)
      refine Ev.bind (rtext_ev own (by omega)) (Ev.pos (by omega) ?_)
      refine Ev.step (fun k => by rw [concordanceref02_Words.l0]) ?_
      exact Ev.neg (show ¬ ((i : Int) + 1 < (l.length : Int)) by omega) (Ev.ret rfl)
    · rw [rest_nil, if_neg (by simp)]
      exact Ev.step (fun k => by rw [concordanceref02_Words.l0]) (Ev.neg (by omega) (Ev.ret rfl))
  | succ d ih =>
    intro i hi
    obtain ⟨g1, g0⟩ := ih (i + 1) (by omega)
    have e : l.drop i = l[i] :: l.drop (i + 1) := List.drop_eq_getElem_cons (by omega)
    have hr : rd l i = l[i] := rd_nat l i (by omega)
    have A : ∀ (outs : List ByteArray) (own : List Int), outs.length + own.length ≤ i → (0 < own.length ∨ ∃ h : i < l.length, inB l[i] = true) → Ev (fun k => concordanceref02_Words.l1 k l outs (i : Int) own) (rest outs own (l.drop i)) := by
      intro outs own ho hc
      rw [e]
      refine Ev.step (fun k => by rw [concordanceref02_Words.l1, hr, rin_f, rfold_f, Option.bind_some, Option.bind_some, wrap_small (i + 1) (by omega)]) (Ev.pos (by omega) (Ev.pos (by omega) ?_))
      cases hb : inB l[i] with
      | true =>
        rw [rest_in _ _ _ _ hb]
        refine Ev.pos rfl (Ev.pos (by omega) ?_)
        have := g1 outs (own ++ [fold l[i]]) (by simp; omega) (.inl (by simp))
        exact_mod_cast this
      | false =>
        have hp : 0 < own.length := by
          rcases hc with h | ⟨_, h⟩
          · exact h
          · rw [hb] at h; cases h
        rw [rest_out _ _ _ _ hb, if_pos hp]
        refine Ev.neg (by decide) ?_
        refine Ev.bind (rtext_ev own (by omega)) (Ev.pos (by omega) ?_)
        have := g0 (outs ++ [strOf own]) (by simp; omega)
        exact_mod_cast this
    refine ⟨A, fun outs ho => ?_⟩
    refine Ev.step (fun k => by rw [concordanceref02_Words.l0, hr, rin_f, Option.bind_some, wrap_small (i + 1) (by omega)]) (Ev.pos (by omega) (Ev.pos (by omega) ?_))
    cases hb : inB l[i] with
    | true => exact Ev.pos rfl (A outs [] (by simp; omega) (.inr ⟨by omega, hb⟩))
    | false =>
      rw [e, rest_out _ _ _ _ hb, if_neg (by simp)]
      refine Ev.neg (by decide) ?_
      have := g0 outs (by omega)
      exact_mod_cast this
theorem rwords_ev (a : ByteArray) (h : a.size ≤ 1000000000) : Ev (fun k => concordanceref02_Words.f k a) (wordsOf (signs a.data.toList)) := by
  unfold concordanceref02_Words.f
  have hl := signs_length a.data.toList
  rw [size_data] at hl
  refine Ev.bind (rsigns_ev a (by omega)) ?_
  exact (rwords_loop (signs a.data.toList) (by omega) (signs a.data.toList).length 0 (by omega)).2 [] (by simp)

end Go.Proofs.Ytbbfilmajiilhaa

/- The document's Name, Tokens, May, Words, Good: what they tell. Condition: few bytes. -/
set_option linter.unusedVariables false
set_option linter.unusedSimpArgs false
namespace Go.Proofs.Ytbbfilmajiilhaa
open Go.RowKit Go.Proofs.Ytbbfilmajiilhaa.PAll Go.Proofs.YtbbfilmajiilhaaW.PrintWords Go.Proofs.YtbbfilmajiilhaaW.PrintLast

abbrev Fd := S29
theorem bt_at (s : ByteArray) (i : Nat) (h : i < s.data.toList.length) : bt s (i : Int) = ((s.data.toList[i]).toNat : Int) := by
  rw [bt_byt]; unfold byt; rw [List.getD_eq_getElem?_getD, List.getElem?_eq_getElem h]; rfl
theorem rdF_nat (l : List Fd) (i : Nat) (h : i < l.length) : rd_T29 l (i : Int) = l[i] := by unfold rd_T29; rw [Int.toNat_natCast, List.getD_eq_getElem?_getD, List.getElem?_eq_getElem h]; rfl
theorem wrap_nat (n : Nat) (h : n + 1 ≤ 9223372036854775807) : wrap64 ((n : Int) + 1) = ((n + 1 : Nat) : Int) := by rw [wrap_small _ (by omega)]; push_cast; rfl

theorem nat0 (i : Nat) : ((0 : Int) ≤ (i : Int)) = True := eq_true (by omega)

/-! ### Name -/
def lowB (c : UInt8) : Bool := decide (97 ≤ c.toNat) && decide (c.toNat ≤ 122)
theorem lowB_1 {c : UInt8} (h : c.toNat < 97) : lowB c = false := by unfold lowB; simp; omega
theorem lowB_2 {c : UInt8} (h : 122 < c.toNat) : lowB c = false := by unfold lowB; simp; omega
theorem lowB_3 {c : UInt8} (h : ¬ c.toNat < 97) (h2 : ¬ 122 < c.toNat) : lowB c = true := by unfold lowB; simp; omega
def nameB (s : ByteArray) : Bool := s.data.toList.all lowB && (decide (1 ≤ s.size) && decide (s.size ≤ 12))
theorem name_loop (s : ByteArray) (hs : s.size ≤ 9223372036854775807) (d : Nat) : ∀ i : Nat, i + d = s.data.toList.length → Ev (fun k => concordanceref08_Name.l0 k s (i : Int)) ((s.data.toList.drop i).all lowB && (decide (1 ≤ s.size) && decide (s.size ≤ 12))) := by
  induction d with
  | zero =>
    intro i hi
    have h1 : ((i : Int) < (s.size : Int)) = False := eq_false (by rw [size_data] at hi; omega)
    refine Ev.step (fun k => by rw [concordanceref08_Name.l0]) ?_
    simp only [h1, if_false]
    rw [List.drop_eq_nil_of_le (by omega), List.all_nil, Bool.true_and]
    by_cases h2 : 1 ≤ s.size
    · refine Ev.pos (by omega) (Ev.ret ?_)
      rw [decide_eq_true h2, Bool.true_and, decide_eq_decide]; omega
    · refine Ev.neg (by omega) (Ev.ret ?_)
      rw [decide_eq_false h2]; rfl
  | succ d ih =>
    intro i hi
    have hl : i < s.data.toList.length := by omega
    have hg := ih (i + 1) (by omega)
    have h1 : ((i : Int) < (s.size : Int)) = True := eq_true (by rw [size_data] at hl; omega)
    refine Ev.step (fun k => by rw [concordanceref08_Name.l0, wrap_nat i (by rw [size_data] at hl; omega), bt_at s i hl]) ?_
    simp only [h1, nat0, if_true]
    rw [List.drop_eq_getElem_cons hl, List.all_cons]
    by_cases h2 : s.data.toList[i].toNat < 97
    · refine Ev.pos (by omega) (Ev.ret ?_)
      rw [lowB_1 h2]; rfl
    · refine Ev.neg (by omega) ?_
      by_cases h3 : s.data.toList[i].toNat > 122
      · refine Ev.pos (by omega) (Ev.ret ?_)
        rw [lowB_2 h3]; rfl
      · refine Ev.neg (by omega) ?_
        rw [lowB_3 h2 h3, Bool.true_and]
        exact hg
theorem name_ev (s : ByteArray) (hs : s.size ≤ 9223372036854775807) : Ev (fun k => concordanceref08_Name.f k s) (nameB s) := by
  unfold concordanceref08_Name.f
  exact name_loop s hs s.data.toList.length 0 (by omega)
theorem name_size {s : ByteArray} (h : nameB s = true) : s.size ≤ 12 := by unfold nameB at h; simp at h; exact h.2.2
theorem name_zero {s : ByteArray} (h : nameB s = true) : NoZero s.data.toList := by
  unfold nameB at h
  rw [Bool.and_eq_true] at h
  intro c hc e
  have := List.all_eq_true.1 h.1 c hc
  subst e
  revert this; decide

/-! ### Tokens: either an error, or as many as words -/
theorem tok_loop (W : List ByteArray) (hW : W.length ≤ 1000000000) (d : Nat) : ∀ (i : Nat) (acc : List S77), i + d = W.length → acc.length = i → ∃ r, Ev (fun k => concordanceref02_Tokens.l0 k W acc (i : Int)) r ∧ (r.2 = 0 → r.1.length = W.length) ∧ r.1.length ≤ W.length := by
  induction d with
  | zero =>
    intro i acc hi ha
    refine ⟨(acc, 0), Ev.step (fun k => by rw [concordanceref02_Tokens.l0]) (Ev.neg (by omega) (Ev.ret rfl)), fun _ => by simp only; omega, by simp only; omega⟩
  | succ d ih =>
    intro i acc hi ha
    by_cases h2 : ((rdOf ByteArray.empty W (i : Int)).size : Int) > 30
    · exact ⟨_, Ev.step (fun k => by rw [concordanceref02_Tokens.l0]) (Ev.pos (by omega) (Ev.pos (by omega) (Ev.pos h2 (Ev.ret rfl)))), fun e => (by cases e), by simp⟩
    · by_cases h3 : (i : Int) ≥ 500
      · exact ⟨_, Ev.step (fun k => by rw [concordanceref02_Tokens.l0]) (Ev.pos (by omega) (Ev.pos (by omega) (Ev.neg h2 (Ev.pos h3 (Ev.ret rfl))))), fun e => (by cases e), by simp⟩
      · obtain ⟨r, hr, h4, h5⟩ := ih (i + 1) (acc ++ [⟨rdOf ByteArray.empty W (i : Int), (i : Int)⟩]) (by omega) (by simp; omega)
        exact ⟨r, Ev.step (fun k => by rw [concordanceref02_Tokens.l0, wrap_nat i (by omega)]) (Ev.pos (by omega) (Ev.pos (by omega) (Ev.neg h2 (Ev.neg h3 (Ev.pos (by omega) hr))))), h4, h5⟩
theorem tok_ev (s : ByteArray) (hs : s.size ≤ 100000000) : ∃ r, Ev (fun k => concordanceref02_Tokens.f k s) r ∧ (r.2 = 0 → r.1.length = (wordsT s).length) ∧ r.1.length ≤ (wordsT s).length := by
  have hl := wordsT_len s
  obtain ⟨r, h1, h2⟩ := tok_loop (wordsT s) (by omega) (wordsT s).length 0 [] (by omega) rfl
  refine ⟨r, ?_, h2⟩
  unfold concordanceref02_Tokens.f
  exact Ev.bind (rwords_ev s (by omega)) h1

/-! ### May: an error, or it is nice -/
def Nice (l : List Fd) : Prop := (∀ f ∈ l, nameB f.f0 = true) ∧ l.Pairwise (fun f g => f.f0 ≠ g.f0)
def Small (l : List Fd) : Prop := ∀ f ∈ l, f.f0.size ≤ 9223372036854775807 ∧ f.f1.size ≤ 40
theorem bytes_ne {a b : ByteArray} : a.toList = b.toList ↔ a = b := bytes_ext a b
theorem may_loop (id : Int) (l : List Fd) (hl : l.length ≤ 8) (hs : Small l) : ∀ (d i : Nat) (n : Nat), i + d = l.length → n ≤ 41 * i → Nice (l.take i) →
    (∃ e, Ev (fun k => concordanceref08_May.l0 k (n : Int) (i : Int) id l) e ∧ (e = 0 → Nice l)) := by
  intro d
  induction d with
  | zero =>
    intro i n hi hn hN
    rw [List.take_of_length_le (by omega)] at hN
    by_cases h : (n : Int) > 500
    · exact ⟨7, Ev.step (fun k => by rw [concordanceref08_May.l0]) (Ev.neg (by omega) (Ev.pos h (Ev.ret rfl))), fun e => (by cases e)⟩
    · exact ⟨0, Ev.step (fun k => by rw [concordanceref08_May.l0]) (Ev.neg (by omega) (Ev.neg h (Ev.ret rfl))), fun _ => hN⟩
  | succ d ih =>
    intro i n hi hn hN
    have hil : i < l.length := by omega
    have hsm := hs _ (List.getElem_mem hil)
    have hrd := rdF_nat l i hil
    have hnm := name_ev l[i].f0 hsm.1
    have hstep : ∀ e, Ev (fun k => (if nameB l[i].f0 = true then (concordanceref08_May.l1 k (n : Int) (i : Int) 0 id l) else (some 4))) e → Ev (fun k => concordanceref08_May.l0 k (n : Int) (i : Int) id l) e := by
      intro e he
      refine Ev.step (fun k => by rw [concordanceref08_May.l0, hrd]) (Ev.pos (by omega) (Ev.pos (by omega) (Ev.bind hnm he)))
    by_cases hb : nameB l[i].f0 = true
    · -- the inner loop
      have inner : ∀ (c m : Nat), m + c = i → (∀ q (hq : q < m) (hql : q < l.length), l[q].f0 ≠ l[i].f0) → ∃ e, Ev (fun k => concordanceref08_May.l1 k (n : Int) (i : Int) (m : Int) id l) e ∧ (e = 0 → Nice l) := by
        intro c
        induction c with
        | zero =>
          intro m hm hq
          obtain rfl : m = i := by omega
          obtain ⟨r, hr, h4, h5⟩ := tok_ev l[m].f1 (by have := hsm.2; omega)
          have hwl := wordsT_len l[m].f1
          have hgo : ∀ e, Ev (fun k => if r.2 = 0 then (concordanceref08_May.l0 k (wrap64 ((n : Int) + (r.1.length : Int))) (wrap64 ((m : Int) + 1)) id l) else (some r.2)) e → Ev (fun k => concordanceref08_May.l1 k (n : Int) (m : Int) (m : Int) id l) e := by
            intro e he
            refine Ev.step (fun k => by rw [concordanceref08_May.l1, hrd]) (Ev.neg (by omega) (Ev.pos (by omega) (Ev.pos (by omega) (Ev.bind hr he))))
          by_cases h0 : r.2 = 0
          · have hN2 : Nice (l.take (m + 1)) := by
              rw [List.take_succ_eq_append_getElem hil]
              refine ⟨fun f hf => ?_, List.pairwise_append.2 ⟨hN.2, List.pairwise_singleton _ _, fun f hf g hg => ?_⟩⟩
              · rcases List.mem_append.1 hf with hf | hf
                · exact hN.1 f hf
                · rw [List.mem_singleton.1 hf]; exact hb
              · rw [List.mem_singleton.1 hg]
                obtain ⟨q, hq1, rfl⟩ := List.mem_iff_getElem.1 hf
                rw [List.length_take] at hq1
                rw [List.getElem_take]
                exact hq q (by omega) (by omega)
            obtain ⟨e, he, h6⟩ := ih (m + 1) (n + r.1.length) (by omega) (by have := hsm.2; omega) hN2
            refine ⟨e, hgo e (Ev.pos h0 ?_), h6⟩
            have e1 : wrap64 ((n : Int) + (r.1.length : Int)) = ((n + r.1.length : Nat) : Int) := by rw [wrap_small _ (by have := hsm.2; omega)]; push_cast; rfl
            rw [e1, wrap_nat m (by omega)]
            exact he
          · exact ⟨r.2, hgo _ (Ev.neg h0 (Ev.ret rfl)), fun e => (h0 e).elim⟩
        | succ c ihc =>
          intro m hm hq
          have hml : m < l.length := by omega
          have hrm := rdF_nat l m hml
          by_cases heq : l[m].f0 = l[i].f0
          · exact ⟨5, Ev.step (fun k => by rw [concordanceref08_May.l1, hrd, hrm]) (Ev.pos (by omega) (Ev.pos (by omega) (Ev.pos (by omega) (Ev.pos (by omega) (Ev.pos (by omega) (Ev.pos (bytes_ne.2 heq) (Ev.ret rfl))))))), fun e => (by cases e)⟩
          · obtain ⟨e, he, h6⟩ := ihc (m + 1) (by omega) (fun q hq2 hql => by
              rcases Nat.lt_succ_iff_lt_or_eq.1 hq2 with h | h
              · exact hq q h hql
              · subst h; exact heq)
            refine ⟨e, Ev.step (fun k => by rw [concordanceref08_May.l1, hrd, hrm, wrap_nat m (by omega)]) (Ev.pos (by omega) (Ev.pos (by omega) (Ev.pos (by omega) (Ev.pos (by omega) (Ev.pos (by omega) (Ev.neg (fun h => heq (bytes_ne.1 h)) he)))))), h6⟩
      obtain ⟨e, he, h6⟩ := inner i 0 (by omega) (fun q hq _ => by omega)
      exact ⟨e, hstep e (Ev.pos hb he), h6⟩
    · exact ⟨4, hstep 4 (Ev.neg hb (Ev.ret rfl)), fun e => (by cases e)⟩
theorem may_ev (id : Int) (l : List Fd) (hs : Small l) : ∃ e, Ev (fun k => concordanceref08_May.f k id l) e ∧ (e = 0 → Nice l) := by
  by_cases h : (l.length : Int) > 8
  · exact ⟨7, by unfold concordanceref08_May.f; exact Ev.pos h (Ev.ret rfl), fun e => (by cases e)⟩
  · obtain ⟨e, he, h6⟩ := may_loop id l (by omega) hs l.length 0 0 (by omega) (by omega) ⟨by simp, by simp⟩
    exact ⟨e, by unfold concordanceref08_May.f; exact Ev.neg h he, h6⟩
end Go.Proofs.Ytbbfilmajiilhaa

/- The document's Good, Words: what they tell. Condition: names of few bytes. -/
set_option linter.unusedVariables false
set_option linter.unusedSimpArgs false
namespace Go.Proofs.Ytbbfilmajiilhaa
open Go.RowKit Go.Proofs.Ytbbfilmajiilhaa.PAll Go.Proofs.YtbbfilmajiilhaaW.PrintWords Go.Proofs.YtbbfilmajiilhaaW.PrintLast

def pool : List ByteArray := [⟨#[116]⟩, ⟨#[117]⟩, ⟨#[118]⟩, ⟨#[119]⟩]
/-- A field as it is taken over. -/
def fixF (i : Nat) (f : Fd) : Fd := ⟨if nameB f.f0 = true then f.f0 else rdOf ByteArray.empty pool (i : Int), f.f1.extract 0 ((mn ((f.f1).size : Int) 40 : Int)).toNat⟩
def fixes (l : List Fd) : List Fd := l.zipIdx.map (fun x => fixF x.2 x.1)
theorem fixes_len (l : List Fd) : (fixes l).length = l.length := by simp [fixes]
theorem fixes_take (l : List Fd) (i : Nat) (h : i < l.length) : (fixes l).take (i + 1) = (fixes l).take i ++ [fixF i l[i]] := by
  rw [List.take_succ_eq_append_getElem (by rw [fixes_len]; exact h)]
  simp [fixes]
theorem mn_40 (n : Nat) : mn (n : Int) 40 = ((min n 40 : Nat) : Int) := by unfold mn; split <;> omega
theorem fix_size (i : Nat) (f : Fd) (hi : i < 4) (hf : f.f0.size ≤ 9223372036854775807) : (fixF i f).f0.size ≤ 9223372036854775807 ∧ (fixF i f).f1.size ≤ 40 := by
  constructor
  · show (if nameB f.f0 = true then f.f0 else rdOf ByteArray.empty pool (i : Int)).size ≤ _
    split
    · exact hf
    · have : i = 0 ∨ i = 1 ∨ i = 2 ∨ i = 3 := by omega
      rcases this with rfl | rfl | rfl | rfl <;> decide
  · show (f.f1.extract 0 _).size ≤ 40
    rw [mn_40, Int.toNat_natCast]
    simp [ByteArray.size_extract]
    omega
structure Fine (l out : List Fd) : Prop where
  nice : Nice out
  sub : out.Sublist (fixes l)
  small : Small out
  few : out.length ≤ 4
theorem good_loop (id : Int) (l : List Fd) (hl : l.length ≤ 9223372036854775807) (hs : ∀ f ∈ l, f.f0.size ≤ 9223372036854775807) : ∀ (d i : Nat) (out : List Fd), i + d = min l.length 4 → Nice out → out.Sublist ((fixes l).take i) → Small out → out.length ≤ i →
    ∃ g, Ev (fun k => concordanceref08_Good.l0 k pool (i : Int) id l id out) (id, g) ∧ Fine l g := by
  intro d
  induction d with
  | zero =>
    intro i out hi hN hsub hsm hol
    refine ⟨out, ?_, hN, hsub.trans (List.take_sublist _ _), hsm, by omega⟩
    by_cases h : i < l.length
    · refine Ev.step (fun k => by rw [concordanceref08_Good.l0]) (Ev.pos (by omega) ?_)
      rw [show decide ((i : Int) < 4) = false from decide_eq_false (by omega)]
      exact Ev.step (fun k => by rw [concordanceref08_Good.j1]) (Ev.neg (by decide) (Ev.ret rfl))
    · refine Ev.step (fun k => by rw [concordanceref08_Good.l0]) (Ev.neg (by omega) ?_)
      exact Ev.step (fun k => by rw [concordanceref08_Good.j1]) (Ev.neg (by decide) (Ev.ret rfl))
  | succ d ih =>
    intro i out hi hN hsub hsm hol
    have hil : i < l.length := by omega
    have hi4 : i < 4 := by omega
    have hrd := rdF_nat l i hil
    have hf0 := hs _ (List.getElem_mem hil)
    have hnm := name_ev l[i].f0 hf0
    have hfx := fixes_take l i hil
    have hfs := fix_size i l[i] hi4 hf0
    have hsm2 : Small (out ++ [fixF i l[i]]) := by
      intro f hf
      rcases List.mem_append.1 hf with hf | hf
      · exact hsm f hf
      · rw [List.mem_singleton.1 hf]; exact hfs
    obtain ⟨e, he, h6⟩ := may_ev id (out ++ [fixF i l[i]]) hsm2
    obtain ⟨g, hg, h7⟩ : ∃ g, Ev (fun k => if e = 0 then (concordanceref08_Good.l0 k pool (wrap64 ((i : Int) + 1)) id l id (out ++ [fixF i l[i]])) else (concordanceref08_Good.l0 k pool (wrap64 ((i : Int) + 1)) id l id out)) (id, g) ∧ Fine l g := by
      rw [wrap_nat i (by omega)]
      by_cases h0 : e = 0
      · obtain ⟨g, hg, h7⟩ := ih (i + 1) (out ++ [fixF i l[i]]) (by omega) (h6 h0) (by rw [hfx]; exact hsub.append (List.Sublist.refl _)) hsm2 (by simp; omega)
        exact ⟨g, Ev.pos h0 hg, h7⟩
      · obtain ⟨g, hg, h7⟩ := ih (i + 1) out (by omega) hN (by rw [hfx]; exact hsub.trans (List.sublist_append_left _ _)) hsm (by omega)
        exact ⟨g, Ev.neg h0 hg, h7⟩
    refine ⟨g, ?_, h7⟩
    have hmn : (0 : Int) ≤ mn ((l[i].f1).size : Int) 40 := by rw [mn_40]; omega
    have hmn2 : mn ((l[i].f1).size : Int) 40 ≤ ((l[i].f1).size : Int) := by rw [mn_40]; omega
    refine Ev.step (fun k => by rw [concordanceref08_Good.l0]) (Ev.pos (by omega) ?_)
    rw [show decide ((i : Int) < 4) = true from decide_eq_true (by omega)]
    refine Ev.step (fun k => by rw [concordanceref08_Good.j1, hrd]) (Ev.pos rfl (Ev.pos (by omega) (Ev.pos (by omega) (Ev.bind hnm ?_))))
    by_cases hb : nameB l[i].f0 = true
    · have hfe : fixF i l[i] = ⟨l[i].f0, l[i].f1.extract 0 ((mn ((l[i].f1).size : Int) 40 : Int)).toNat⟩ := by unfold fixF; rw [if_pos hb]
      rw [hfe] at he hg
      exact Ev.pos hb (Ev.pos hmn (Ev.pos hmn2 (Ev.pos (by simp; omega) (Ev.const (a := out) (by simp) (Ev.pos (by omega) (Ev.const rfl (Ev.bind he hg)))))))
    · have hfe : fixF i l[i] = ⟨rdOf ByteArray.empty pool (i : Int), l[i].f1.extract 0 ((mn ((l[i].f1).size : Int) 40 : Int)).toNat⟩ := by unfold fixF; rw [if_neg hb]
      rw [hfe] at he hg
      exact Ev.neg hb (Ev.pos (by show (i : Int) < ((4 : Nat) : Int); omega) (Ev.pos hmn (Ev.pos hmn2 (Ev.pos (by simp; omega) (Ev.const (a := out) (by simp) (Ev.pos (by omega) (Ev.const rfl (Ev.bind he hg))))))))
theorem good_ev (id : Int) (l : List Fd) (hl : l.length ≤ 9223372036854775807) (hs : ∀ f ∈ l, f.f0.size ≤ 9223372036854775807) : ∃ g, Ev (fun k => concordanceref08_Good.f k id l) (id, g) ∧ Fine l g := by
  obtain ⟨g, hg, h⟩ := good_loop id l hl hs (min l.length 4) 0 [] (by omega) ⟨by simp, by simp⟩ (by simp) (by simp [Small]) (by simp)
  exact ⟨g, by unfold concordanceref08_Good.f; exact hg, h⟩
theorem Fine.doc {l g : List Fd} (h : Fine l g) : docOk g ∧ namesOk g :=
  ⟨⟨by have := h.few; omega, fun f hf => by have := (h.small f hf).2; omega⟩, fun f hf => ⟨by have := name_size (h.nice.1 f hf); omega, name_zero (h.nice.1 f hf)⟩⟩

/-! ### Words -/
def words8 (l : List Fd) (a : ByteArray) : List ByteArray := match l.find? (fun f => decide (f.f0 = a)) with
  | some f => wordsT f.f1
  | none => []
theorem words8_loop (id : Int) (l : List Fd) (a : ByteArray) (hl : l.length ≤ 1000000) (hs : ∀ f ∈ l, f.f1.size ≤ 1000000) (d : Nat) : ∀ i : Nat, i + d = l.length → Ev (fun k => concordanceref08_Words.l0 k a (i : Int) id l) (words8 (l.drop i) a) := by
  induction d with
  | zero =>
    intro i hi
    refine Ev.step (fun k => by rw [concordanceref08_Words.l0]) (Ev.neg (by omega) (Ev.ret ?_))
    rw [List.drop_eq_nil_of_le (by omega)]; rfl
  | succ d ih =>
    intro i hi
    have hil : i < l.length := by omega
    have hrd := rdF_nat l i hil
    have hg := ih (i + 1) (by omega)
    rw [List.drop_eq_getElem_cons hil]
    refine Ev.step (fun k => by rw [concordanceref08_Words.l0, hrd, wrap_nat i (by omega)]) (Ev.pos (by omega) (Ev.pos (by omega) ?_))
    unfold words8
    rw [List.find?_cons]
    by_cases he : l[i].f0 = a
    · rw [decide_eq_true he]
      exact Ev.pos (bytes_ne.2 he) (Ev.bind (rwords_ev l[i].f1 (by have := hs _ (List.getElem_mem hil); omega)) (Ev.ret rfl))
    · rw [decide_eq_false he]
      exact Ev.neg (fun h => he (bytes_ne.1 h)) hg
theorem words8_ev (id : Int) (l : List Fd) (a : ByteArray) (h : docOk l) : Ev (fun k => concordanceref08_Words.f k id l a) (words8 l a) := by
  unfold concordanceref08_Words.f
  exact words8_loop id l a (by have := h.1; omega) h.2 l.length 0 (by omega)
/-- Names each once: a field's words are its own. -/
theorem words8_own {l : List Fd} (h : Nice l) (i : Nat) (hi : i < l.length) : words8 l l[i].f0 = wordsT l[i].f1 := by
  unfold words8
  have : l.find? (fun f => decide (f.f0 = l[i].f0)) = some l[i] := by
    rw [List.find?_eq_some_iff_getElem]
    refine ⟨by simp, i, hi, rfl, fun j hj => ?_⟩
    simp only [Bool.not_eq_true', decide_eq_false_iff_not]
    exact List.pairwise_iff_getElem.1 h.2 j i (by omega) hi hj
  rw [this]
theorem words8_len (l : List Fd) (a : ByteArray) (h : docOk l) : (words8 l a).length ≤ 1000001 := by
  unfold words8
  split
  · rename_i f hf
    have := wordsT_len f.f1
    have := h.2 f (List.mem_of_find?_eq_some hf)
    omega
  · simp
end Go.Proofs.Ytbbfilmajiilhaa

/- The document's Phrase, Places, Terms, Weight, and doc.Phrase: what they tell. Condition: few bytes, names each once. -/
set_option linter.unusedVariables false
set_option linter.unusedSimpArgs false
namespace Go.Proofs.Ytbbfilmajiilhaa
open Go.RowKit Go.Proofs.Ytbbfilmajiilhaa.PAll Go.Proofs.YtbbfilmajiilhaaW.PrintWords Go.Proofs.YtbbfilmajiilhaaW.PrintLast

theorem rdS_lt (l : List ByteArray) (i : Nat) (h : i < l.length) : rdOf ByteArray.empty l (i : Int) = l[i] := rdS_nat l i h
/-! ### are texts the same? -/
theorem take_eq_step {a b : List ByteArray} (i : Nat) (ha : i < a.length) (hb : i < b.length) : (a.drop i = b.drop i) ↔ (a[i] = b[i] ∧ a.drop (i + 1) = b.drop (i + 1)) := by
  rw [List.drop_eq_getElem_cons ha, List.drop_eq_getElem_cons hb, List.cons.injEq]
theorem equal_loop (a b : List ByteArray) (hl : a.length = b.length) (hn : a.length ≤ 1000000000000) (d : Nat) : ∀ i : Nat, i + d = a.length → Ev (fun k => slices_Equal_string_string.l0 k a b (a.length : Int) (i : Int)) (decide (a.drop i = b.drop i)) := by
  induction d with
  | zero =>
    intro i hi
    refine Ev.step (fun k => by rw [slices_Equal_string_string.l0]) (Ev.neg (by omega) (Ev.ret ?_))
    rw [List.drop_eq_nil_of_le (by omega), List.drop_eq_nil_of_le (by omega)]; simp
  | succ d ih =>
    intro i hi
    have h1 := take_eq_step i (show i < a.length by omega) (show i < b.length by omega)
    refine Ev.step (fun k => by rw [slices_Equal_string_string.l0, rdS_lt a i (by omega), rdS_lt b i (by omega), wrap_nat i (by omega)]) (Ev.pos (by omega) (Ev.pos (by omega) (Ev.pos (by omega) (Ev.pos (by omega) ?_))))
    by_cases he : a[i] = b[i]
    · refine Ev.pos (bytes_ne.2 he) ?_
      have := ih (i + 1) (by omega)
      rw [show decide (a.drop i = b.drop i) = decide (a.drop (i + 1) = b.drop (i + 1)) from by rw [decide_eq_decide, h1]; exact ⟨fun h => h.2, fun h => ⟨he, h⟩⟩]
      exact this
    · refine Ev.neg (fun h => he (bytes_ne.1 h)) (Ev.ret ?_)
      rw [eq_comm, decide_eq_false_iff_not, h1]
      exact fun h => he h.1
theorem equal_ev (a b : List ByteArray) (hn : a.length ≤ 1000000000000) : Ev (fun k => slices_Equal_string_string.f k a b) (decide (a = b)) := by
  unfold slices_Equal_string_string.f
  by_cases hl : a.length = b.length
  · exact Ev.pos (by omega) (equal_loop a b hl hn a.length 0 (by omega))
  · refine Ev.neg (by omega) (Ev.ret ?_)
    rw [eq_comm, decide_eq_false_iff_not]
    exact fun h => hl (by rw [h])
theorem same2_loop (a b : List ByteArray) (hl : a.length = b.length) (hn : a.length ≤ 1000000000000) (d : Nat) : ∀ i : Nat, i + d = a.length → Ev (fun k => concordanceref02_Same.l0 k a b (i : Int)) (decide (a.drop i = b.drop i)) := by
  induction d with
  | zero =>
    intro i hi
    refine Ev.step (fun k => by rw [concordanceref02_Same.l0]) (Ev.neg (by omega) (Ev.ret ?_))
    rw [List.drop_eq_nil_of_le (by omega), List.drop_eq_nil_of_le (by omega)]; simp
  | succ d ih =>
    intro i hi
    have h1 := take_eq_step i (show i < a.length by omega) (show i < b.length by omega)
    refine Ev.step (fun k => by rw [concordanceref02_Same.l0, rdS_lt a i (by omega), rdS_lt b i (by omega), wrap_nat i (by omega)]) (Ev.pos (by omega) (Ev.pos (by omega) (Ev.pos (by omega) ?_)))
    by_cases he : a[i] = b[i]
    · refine Ev.pos (bytes_ne.2 he) ?_
      have := ih (i + 1) (by omega)
      rw [show decide (a.drop i = b.drop i) = decide (a.drop (i + 1) = b.drop (i + 1)) from by rw [decide_eq_decide, h1]; exact ⟨fun h => h.2, fun h => ⟨he, h⟩⟩]
      exact this
    · refine Ev.neg (fun h => he (bytes_ne.1 h)) (Ev.ret ?_)
      rw [eq_comm, decide_eq_false_iff_not, h1]
      exact fun h => he h.1
theorem same2_ev (a b : List ByteArray) (hn : a.length ≤ 1000000000000) : Ev (fun k => concordanceref02_Same.f k a b) (decide (a = b)) := by
  unfold concordanceref02_Same.f
  by_cases hl : a.length = b.length
  · exact Ev.pos (by omega) (same2_loop a b hl hn a.length 0 (by omega))
  · refine Ev.neg (by omega) (Ev.ret ?_)
    rw [eq_comm, decide_eq_false_iff_not]
    exact fun h => hl (by rw [h])

/-! ### phrases -/
/-- At how many places words begin to stand side by side. -/
def phr (ws : List ByteArray) : List ByteArray → Nat
  | [] => 0
  | x :: L => (if (x :: L).take ws.length = ws then 1 else 0) + phr ws L
theorem phr_cons (ws : List ByteArray) (x : ByteArray) (L : List ByteArray) : phr ws (x :: L) = (if (x :: L).take ws.length = ws then 1 else 0) + phr ws L := rfl
theorem phr_short (ws : List ByteArray) : ∀ L : List ByteArray, L.length < ws.length → phr ws L = 0
  | [], _ => rfl
  | x :: L, h => by
    unfold phr
    rw [phr_short ws L (by simp at h; omega), if_neg]
    intro e
    have := congrArg List.length e
    rw [List.length_take] at this
    omega
theorem phr_le (ws : List ByteArray) : ∀ L : List ByteArray, phr ws L ≤ L.length
  | [] => Nat.le_refl _
  | x :: L => by
    unfold phr
    have := phr_le ws L
    rw [List.length_cons]
    split <;> omega
theorem phr8_loop (ws L : List ByteArray) (h0 : 0 < ws.length) (hw : ws.length ≤ 1000000000) (hL : L.length ≤ 1000000000) (d : Nat) : ∀ i n : Nat, i + d = L.length → n ≤ i → Ev (fun k => concordanceref08_Phrase.l0 k ws L (n : Int) (i : Int)) ((n + phr ws (L.drop i) : Nat) : Int) := by
  have stop : ∀ i n : Nat, L.length < i + ws.length → i ≤ L.length → Ev (fun k => concordanceref08_Phrase.l0 k ws L (n : Int) (i : Int)) ((n + phr ws (L.drop i) : Nat) : Int) := by
    intro i n h hi
    rw [phr_short ws (L.drop i) (by rw [List.length_drop]; omega), Nat.add_zero]
    refine Ev.step (fun k => by rw [concordanceref08_Phrase.l0, wrap_small ((i : Int) + (ws.length : Int)) (by omega)]) (Ev.neg (by omega) ?_)
    exact Ev.step (fun k => by rw [concordanceref08_Phrase.j1]) (Ev.neg (by decide) (Ev.ret rfl))
  induction d with
  | zero => intro i n hi _; exact stop i n (by omega) (by omega)
  | succ d ih =>
    intro i n hi hn
    by_cases hs : L.length < i + ws.length
    · exact stop i n hs (by omega)
    · have hil : i < L.length := by omega
      have e0 : ((i : Int) + (ws.length : Int)).toNat = i + ws.length := by omega
      have e1 : (L.take (i + ws.length)).drop i = (L.drop i).take ws.length := by rw [List.drop_take, Nat.add_sub_cancel_left]
      refine Ev.step (fun k => by rw [concordanceref08_Phrase.l0, wrap_small ((i : Int) + (ws.length : Int)) (by omega)]) (Ev.pos (by omega) ?_)
      rw [show decide ((ws.length : Int) > 0) = true from decide_eq_true (by omega)]
      refine Ev.step (fun k => by rw [concordanceref08_Phrase.j1, wrap_small ((i : Int) + (ws.length : Int)) (by omega), e0, Int.toNat_natCast, e1]) (Ev.pos rfl (Ev.pos (by omega) (Ev.pos (by omega) (Ev.pos (by omega) (Ev.bind (same2_ev _ ws (by rw [List.length_take]; omega)) ?_)))))
      have hd := List.drop_eq_getElem_cons hil
      have hp : phr ws (L.drop i) = (if (L.drop i).take ws.length = ws then 1 else 0) + phr ws (L.drop (i + 1)) := by
        rw [show phr ws (L.drop i) = phr ws (L[i] :: L.drop (i + 1)) by rw [← hd], phr_cons, ← hd]
      by_cases he : (L.drop i).take ws.length = ws
      · refine Ev.pos (decide_eq_true he) ?_
        rw [wrap_nat i (by omega), wrap_nat n (by omega), hp, if_pos he, ← Nat.add_assoc]
        exact ih (i + 1) (n + 1) (by omega) (by omega)
      · refine Ev.neg (by simpa using he) ?_
        rw [wrap_nat i (by omega), hp, if_neg he, Nat.zero_add]
        exact ih (i + 1) n (by omega) (by omega)
/-- The document's. -/
def phr8 (l : List Fd) (a : ByteArray) (ws : List ByteArray) : Nat := if ws = [] then 0 else phr ws (words8 l a)
theorem phr8_ev (id : Int) (l : List Fd) (a : ByteArray) (ws : List ByteArray) (h : docOk l) (hw : ws.length ≤ 1000000000) : Ev (fun k => concordanceref08_Phrase.f k id l a ws) ((phr8 l a ws : Nat) : Int) := by
  unfold concordanceref08_Phrase.f phr8
  refine Ev.bind (words8_ev id l a h) ?_
  have hL := words8_len l a h
  by_cases h0 : ws = []
  · subst h0
    rw [if_pos rfl]
    by_cases hc : wrap64 ((0 : Int) + (([] : List ByteArray).length : Int)) ≤ ((words8 l a).length : Int)
    · refine Ev.step (fun k => by rw [concordanceref08_Phrase.l0]) (Ev.pos hc ?_)
      refine Ev.step (fun k => by rw [concordanceref08_Phrase.j1]) ?_
      exact Ev.neg (by decide) (Ev.ret rfl)
    · refine Ev.step (fun k => by rw [concordanceref08_Phrase.l0]) (Ev.neg hc ?_)
      refine Ev.step (fun k => by rw [concordanceref08_Phrase.j1]) ?_
      exact Ev.neg (by decide) (Ev.ret rfl)
  · rw [if_neg h0]
    have := phr8_loop ws (words8 l a) (List.length_pos_iff.2 h0) hw (by omega) (words8 l a).length 0 0 (by omega) (by omega)
    rw [Nat.zero_add] at this
    exact this
/-- doc.Phrase: over all fields of the name. -/
def phrD (l : List Fd) (a : ByteArray) (ws : List ByteArray) : Nat := (l.map (fun f => if f.f0 = a ∧ ws ≠ [] then phr ws (wordsT f.f1) else 0)).sum
theorem phrD_take (l : List Fd) (a : ByteArray) (ws : List ByteArray) (i : Nat) (h : i < l.length) : phrD (l.take (i + 1)) a ws = phrD (l.take i) a ws + (if l[i].f0 = a ∧ ws ≠ [] then phr ws (wordsT l[i].f1) else 0) := by
  unfold phrD
  rw [List.take_succ_eq_append_getElem h, List.map_append, List.sum_append]
  simp
theorem phrD_le (l : List Fd) (a : ByteArray) (ws : List ByteArray) (hs : ∀ f ∈ l, f.f1.size ≤ 1000000) : phrD l a ws ≤ l.length * 1000001 := by
  induction l with
  | nil => simp [phrD]
  | cons f l ih =>
    have h1 := ih (fun g hg => hs g (List.mem_cons_of_mem _ hg))
    have h2 := phr_le ws (wordsT f.f1)
    have h3 := wordsT_len f.f1
    have h4 := hs f List.mem_cons_self
    have e : phrD (f :: l) a ws = (if f.f0 = a ∧ ws ≠ [] then phr ws (wordsT f.f1) else 0) + phrD l a ws := by unfold phrD; rw [List.map_cons, List.sum_cons]
    rw [e, List.length_cons]
    split <;> omega
theorem phrD_loop (id : Int) (l : List Fd) (a : ByteArray) (ws : List ByteArray) (h : docOk l) (hw : ws.length ≤ 1000000000) (d : Nat) : ∀ i : Nat, i + d = l.length → Ev (fun k => doc_Phrase.l0 k a ws ((phrD (l.take i) a ws : Nat) : Int) l (l.length : Int) (i : Int)) ((phrD l a ws : Nat) : Int) := by
  induction d with
  | zero =>
    intro i hi
    refine Ev.step (fun k => by rw [doc_Phrase.l0]) (Ev.neg (by omega) (Ev.ret ?_))
    rw [List.take_of_length_le (by omega)]
  | succ d ih =>
    intro i hi
    have hil : i < l.length := by have := h.1; omega
    have hl3 := h.1
    have hrd := rdF_nat l i hil
    have hg := ih (i + 1) (by omega)
    rw [phrD_take l a ws i hil] at hg
    have hbd := phrD_le (l.take i) a ws (fun f hf => h.2 f (List.mem_of_mem_take hf))
    rw [List.length_take] at hbd
    have hsz := h.2 _ (List.getElem_mem hil)
    have hwl := wordsT_len l[i].f1
    -- the skip
    have skip : ¬ (l[i].f0 = a ∧ ws ≠ []) → ∀ f0 f1, Ev (fun k => doc_Phrase.j1 k a ws ((phrD (l.take i) a ws : Nat) : Int) l (l.length : Int) (i : Int) true f0 f1) ((phrD l a ws : Nat) : Int) := by
      intro hn f0 f1
      rw [if_neg hn, Nat.add_zero] at hg
      exact Ev.step (fun k => by rw [doc_Phrase.j1, wrap_nat i (by omega)]) (Ev.pos rfl hg)
    refine Ev.step (fun k => by rw [doc_Phrase.l0, hrd]) (Ev.pos (by omega) (Ev.pos (by omega) (Ev.pos (by omega) ?_)))
    by_cases he : l[i].f0 = a
    · refine Ev.pos (bytes_ne.2 he) ?_
      by_cases h0 : ws = []
      · have hb : ((ws.length : Int) == 0) = true := by rw [h0]; rfl
        rw [hb]
        exact skip (fun q => q.2 h0) _ _
      · have hpos := List.length_pos_iff.2 h0
        have hb : ((ws.length : Int) == 0) = false := by rw [beq_eq_false_iff_ne]; omega
        rw [hb]
        refine Ev.step (fun k => by rw [doc_Phrase.j1]) (Ev.neg (by decide) ?_)
        refine Ev.const (a := wordsT l[i].f1) (show word_Words.f l[i].f1 = some (wordsT l[i].f1) from if_pos (by omega)) ?_
        rw [if_pos ⟨he, h0⟩] at hg
        have inner : ∀ (c : Nat) (L : List ByteArray) (n : Nat), L.length = c → n + L.length ≤ 10000000000 → Ev (fun k => doc_Phrase.l0 k a ws ((n + phr ws L : Nat) : Int) l (l.length : Int) ((i + 1 : Nat) : Int)) ((phrD l a ws : Nat) : Int) → Ev (fun k => doc_Phrase.l1 k a ws (n : Int) L l (l.length : Int) (i : Int)) ((phrD l a ws : Nat) : Int) := by
          intro c
          induction c with
          | zero =>
            intro L n hL hnb hgo
            rw [phr_short ws L (by omega), Nat.add_zero] at hgo
            exact Ev.step (fun k => by rw [doc_Phrase.l1, wrap_nat i (by omega)]) (Ev.neg (by omega) hgo)
          | succ c ihc =>
            intro L n hL hnb hgo
            by_cases hsh : L.length < ws.length
            · rw [phr_short ws L hsh, Nat.add_zero] at hgo
              exact Ev.step (fun k => by rw [doc_Phrase.l1, wrap_nat i (by omega)]) (Ev.neg (by omega) hgo)
            · match L, hL with
              | x :: L, hL =>
                have hL' : L.length = c := by simpa using hL
                have e2 : (x :: L).drop (1 : Int).toNat = L := rfl
                refine Ev.step (fun k => by rw [doc_Phrase.l1, Int.toNat_natCast, e2]) (Ev.pos (by omega) (Ev.pos (by omega) (Ev.pos (by omega) (Ev.bind (equal_ev _ ws (by rw [List.length_take]; omega)) ?_))))
                rw [phr_cons] at hgo
                by_cases hq : (x :: L).take ws.length = ws
                · rw [if_pos hq, ← Nat.add_assoc] at hgo
                  refine Ev.pos (decide_eq_true hq) (Ev.pos (by rw [hL]; omega) ?_)
                  rw [wrap_nat n (by omega)]
                  exact ihc L (n + 1) hL' (by rw [List.length_cons] at hnb; omega) hgo
                · rw [if_neg hq, Nat.zero_add] at hgo
                  refine Ev.neg (by simpa using hq) (Ev.pos (by rw [hL]; omega) ?_)
                  exact ihc L n hL' (by rw [List.length_cons] at hnb; omega) hgo
        exact inner _ (wordsT l[i].f1) (phrD (l.take i) a ws) rfl (by omega) hg
    · refine Ev.neg (fun q => he (bytes_ne.1 q)) ?_
      exact skip (fun q => he q.1) _ _
theorem phrD_ev (id : Int) (l : List Fd) (a : ByteArray) (ws : List ByteArray) (h : docOk l) (hw : ws.length ≤ 1000000000) : Ev (fun k => doc_Phrase.f k id l a ws) ((phrD l a ws : Nat) : Int) := by
  unfold doc_Phrase.f
  have := phrD_loop id l a ws h hw l.length 0 (by omega)
  exact this
theorem sum_zero : ∀ l : List Nat, (∀ x ∈ l, x = 0) → l.sum = 0
  | [], _ => rfl
  | x :: l, h => by rw [List.sum_cons, h x List.mem_cons_self, sum_zero l (fun y hy => h y (List.mem_cons_of_mem _ hy))]
theorem phrD_eq {l : List Fd} (h : l.Pairwise (fun f g => f.f0 ≠ g.f0)) (a : ByteArray) (ws : List ByteArray) : phrD l a ws = phr8 l a ws := by
  induction l with
  | nil => unfold phrD phr8 words8; simp [phr]
  | cons f l ih =>
    obtain ⟨h1, h2⟩ := List.pairwise_cons.1 h
    have ih := ih h2
    have e : phrD (f :: l) a ws = (if f.f0 = a ∧ ws ≠ [] then phr ws (wordsT f.f1) else 0) + phrD l a ws := by unfold phrD; rw [List.map_cons, List.sum_cons]
    rw [e]
    by_cases he : f.f0 = a
    · have hz : phrD l a ws = 0 := by
        unfold phrD
        refine sum_zero _ (fun n hn => ?_)
        obtain ⟨g, hg, rfl⟩ := List.mem_map.1 hn
        exact if_neg (fun q => h1 g hg (he.trans q.1.symm))
      rw [hz, Nat.add_zero]
      unfold phr8 words8
      rw [List.find?_cons, decide_eq_true he]
      by_cases h0 : ws = [] <;> simp [h0, he]
    · rw [if_neg (fun q => he q.1), Nat.zero_add, ih]
      unfold phr8 words8
      rw [List.find?_cons, decide_eq_false he]
end Go.Proofs.Ytbbfilmajiilhaa

/- The document's Places, Terms, Weight; the example. Condition: few bytes, names each once. -/
set_option linter.unusedVariables false
set_option linter.unusedSimpArgs false
namespace Go.Proofs.Ytbbfilmajiilhaa
open Go.RowKit Go.Proofs.Ytbbfilmajiilhaa.PAll Go.Proofs.YtbbfilmajiilhaaW.PrintWords Go.Proofs.YtbbfilmajiilhaaW.PrintLast

/-! ### Places -/
/-- Where a word stands. -/
def plc (L : List ByteArray) (w : ByteArray) : List Int := (L.zipIdx.filter (fun x => decide (x.1 = w))).map (fun x => (x.2 : Int))
theorem plc_take (L : List ByteArray) (w : ByteArray) (i : Nat) (h : i < L.length) : plc (L.take (i + 1)) w = plc (L.take i) w ++ (if L[i] = w then [(i : Int)] else []) := by
  unfold plc
  rw [List.take_succ_eq_append_getElem h, List.zipIdx_append, List.filter_append, List.map_append]
  congr 1
  rw [List.length_take, Nat.min_eq_left (by omega)]
  by_cases e : L[i] = w <;> simp [e]
theorem plc_len (L : List ByteArray) (w : ByteArray) : (plc L w).length ≤ L.length := by
  unfold plc
  rw [List.length_map]
  exact Nat.le_trans (List.length_filter_le _ _) (by simp)
theorem places_loop (L : List ByteArray) (f w : ByteArray) (hL : L.length ≤ 1000000000) (d : Nat) : ∀ i : Nat, i + d = L.length → Ev (fun k => concordanceref08_Places.l0 k (plc (L.take i) w) L (i : Int) f w) (plc L w) := by
  induction d with
  | zero =>
    intro i hi
    refine Ev.step (fun k => by rw [concordanceref08_Places.l0]) (Ev.neg (by omega) (Ev.ret ?_))
    rw [List.take_of_length_le (by omega)]
  | succ d ih =>
    intro i hi
    have hil : i < L.length := by omega
    have hg := ih (i + 1) (by omega)
    rw [plc_take L w i hil] at hg
    have hb := plc_len (L.take i) w
    rw [List.length_take] at hb
    refine Ev.step (fun k => by rw [concordanceref08_Places.l0, rdS_lt L i hil, wrap_nat i (by omega)]) (Ev.pos (by omega) (Ev.pos (by omega) ?_))
    by_cases he : L[i] = w
    · rw [if_pos he] at hg
      exact Ev.pos (bytes_ne.2 he) (Ev.pos (by omega) hg)
    · rw [if_neg he, List.append_nil] at hg
      exact Ev.neg (fun h => he (bytes_ne.1 h)) hg
theorem places_ev (id : Int) (l : List Fd) (f w : ByteArray) (h : docOk l) : Ev (fun k => concordanceref08_Places.f k id l f w) (plc (words8 l f) w) := by
  unfold concordanceref08_Places.f
  exact Ev.bind (words8_ev id l f h) (places_loop (words8 l f) f w (by have := words8_len l f h; omega) (words8 l f).length 0 (by omega))
theorem placesIn_append (a b : List Occ) (t : Tm) : placesIn (a ++ b) t = placesIn a t ++ placesIn b t := by unfold placesIn; rw [List.filter_append, List.map_append]
theorem placesIn_F (f : ByteArray) (L : List ByteArray) (t : Tm) : placesIn (occF f L) t = if f = t.1 then plc L t.2 else [] := by
  unfold placesIn occF plc
  rw [List.filter_map, List.map_map]
  by_cases e : f = t.1
  · subst e
    rw [if_pos rfl]
    congr 1
    apply List.filter_congr
    intro x _
    show decide (tmOf (t.1, x.1, x.2) = t) = decide (x.1 = t.2)
    rw [decide_eq_decide]
    exact ⟨fun h => congrArg Prod.snd h, fun h => Prod.ext rfl h⟩
  · rw [if_neg e]
    have : L.zipIdx.filter ((fun o => decide (tmOf o = t)) ∘ fun x => (f, x.1, x.2)) = [] := by
      rw [List.filter_eq_nil_iff]
      intro x _ h
      have h2 : tmOf (f, x.1, x.2) = t := by simpa using h
      exact e (congrArg Prod.fst h2)
    rw [this]; rfl
theorem places_own {l : List Fd} (h : l.Pairwise (fun f g => f.f0 ≠ g.f0)) (t : Tm) : placesIn (occ l) t = plc (words8 l t.1) t.2 := by
  induction l with
  | nil => rfl
  | cons f l ih =>
    obtain ⟨h1, h2⟩ := List.pairwise_cons.1 h
    have ih := ih h2
    have e : occ (f :: l) = occF f.f0 (wordsT f.f1) ++ occ l := by unfold occ; rw [List.flatMap_cons]
    rw [e, placesIn_append, placesIn_F]
    by_cases he : f.f0 = t.1
    · have hz : placesIn (occ l) t = [] := by
        rw [ih]
        have : words8 l t.1 = [] := by
          unfold words8
          rw [List.find?_eq_none.2 (fun g hg => by simpa using fun q => h1 g hg (he.trans q.symm))]
        rw [this]; rfl
      rw [if_pos he, hz, List.append_nil]
      unfold words8
      rw [List.find?_cons, decide_eq_true he]
    · rw [if_neg he, List.nil_append, ih]
      unfold words8
      rw [List.find?_cons, decide_eq_false he]
theorem told_places (pre : List Occ) (t : Tm) : told t pre = (placesIn pre t).length := by
  unfold told placesIn
  rw [List.length_map, List.countP_eq_length_filter]
  congr 1
  apply List.filter_congr
  intro o _
  rw [decide_eq_decide]
  exact ⟨fun h => Prod.ext h.1 h.2, fun h => ⟨congrArg Prod.fst h, congrArg Prod.snd h⟩⟩

/-! ### Terms -/
theorem toS_rd (l : List Tm) (i : Nat) (h : i < l.length) : rd_T39 (l.map toS) (i : Int) = toS l[i] := by
  unfold rd_T39
  rw [Int.toNat_natCast, List.getD_eq_getElem?_getD, List.getElem?_map, List.getElem?_eq_getElem h]; rfl
theorem rkey (t : Tm) (h : Tiny t) : concordanceref02_Key.f t.1 t.2 = some (keyS t) := by
  have h1 := h.1
  have h2 := h.2
  have e : (t.1 ++ (⟨#[0]⟩ : ByteArray)).size = t.1.size + 1 := by rw [ByteArray.size_append]; rfl
  unfold concordanceref02_Key.f
  rw [if_pos (by omega), if_pos (by rw [e]; omega)]
  rfl
theorem keyS_list (t : Tm) : (keyS t).toList = keyB t := by rw [ByteArray.toList_eq, keyS_data]
theorem insT_split {l : List Tm} {t : Tm} (hr : Rise l) (hz : ∀ u ∈ l, NoZero u.1.data.toList) (ht : NoZero t.1.data.toList) (j : Nat) (hj : j ≤ l.length) (hhi : ∀ q (hq : q < l.length), j ≤ q → keyB t < keyB l[q]) (hlo : ∀ (h0 : 0 < j), ¬ keyB t < keyB (l[j - 1]'(by omega)) ∧ l[j - 1]'(by omega) ≠ t) :
    insT l t = l.take j ++ t :: l.drop j := by
  refine rise_unique (rise_insT t hr hz ht) ?_ (fun u => ?_)
  · refine List.pairwise_append.2 ⟨List.Pairwise.sublist (List.take_sublist _ _) hr, List.pairwise_cons.2 ⟨fun u hu => ?_, List.Pairwise.sublist (List.drop_sublist _ _) hr⟩, fun u hu v hv => ?_⟩
    · obtain ⟨q, hq, rfl⟩ := List.mem_iff_getElem.1 hu
      rw [List.length_drop] at hq
      rw [List.getElem_drop]
      exact hhi (j + q) (by omega) (by omega)
    · obtain ⟨q, hq, rfl⟩ := List.mem_iff_getElem.1 hu
      rw [List.length_take] at hq
      rw [List.getElem_take]
      have hj0 : 0 < j := by omega
      obtain ⟨n1, n2⟩ := hlo hj0
      have hlast : keyB (l[j - 1]'(by omega)) < keyB t := Classical.byContradiction fun hn => n2 (key_inj (hz _ (List.getElem_mem _)) ht (List.le_antisymm (List.not_lt.1 n1) (List.not_lt.1 hn)))
      have hql : keyB l[q] < keyB t := by
        rcases Nat.lt_or_ge q (j - 1) with h | h
        · exact List.lt_trans (List.pairwise_iff_getElem.1 hr q (j - 1) (by omega) (by omega) h) hlast
        · obtain rfl : q = j - 1 := by omega
          exact hlast
      rcases List.mem_cons.1 hv with rfl | hv
      · exact hql
      · obtain ⟨p, hp, rfl⟩ := List.mem_iff_getElem.1 hv
        rw [List.length_drop] at hp
        rw [List.getElem_drop]
        exact List.lt_trans hql (hhi (j + p) (by omega) (by omega))
  · rw [mem_insT]
    conv => lhs; rw [← List.take_append_drop j l]
    simp only [List.mem_append, List.mem_cons]
    constructor
    · rintro ((h | h) | h)
      · exact .inl h
      · exact .inr (.inr h)
      · exact .inr (.inl h)
    · rintro (h | h | h)
      · exact .inl (.inl h)
      · exact .inr h
      · exact .inl (.inr h)
theorem insT_there {l : List Tm} {t : Tm} (hr : Rise l) (hz : ∀ u ∈ l, NoZero u.1.data.toList) (ht : t ∈ l) : insT l t = l :=
  rise_unique (rise_insT t hr hz (hz t ht)) hr (fun u => by rw [mem_insT]; exact ⟨fun h => h.elim id (fun e => e ▸ ht), .inl⟩)
def Clean (l : List Tm) : Prop := ∀ u ∈ l, Tiny u ∧ NoZero u.1.data.toList
theorem putTerm_loop {l : List Tm} {t : Tm} (hr : Rise l) (hc : Clean l) (ht : Tiny t ∧ NoZero t.1.data.toList) (hl : l.length ≤ 1000000000000) : ∀ j : Nat, j ≤ l.length → (∀ q (hq : q < l.length), j ≤ q → keyB t < keyB l[q]) → Ev (fun k => concordanceref08_PutTerm.l0 k (l.map toS) (j : Int) t.1 t.2) ((insT l t).map toS) := by
  have hz : ∀ u ∈ l, NoZero u.1.data.toList := fun u hu => (hc u hu).2
  intro j
  induction j with
  | zero =>
    intro hj hhi
    have e := insT_split hr hz ht.2 0 hj hhi (fun h => absurd h (by omega))
    refine Ev.step (fun k => by rw [concordanceref08_PutTerm.l0]) ?_
    refine Ev.neg (by omega) <| Ev.pos (by omega) <| Ev.pos (by omega) <| Ev.const rfl <| Ev.pos (by simp) <| Ev.const rfl <| Ev.pos (by simp) <| Ev.const rfl <| Ev.const rfl <| Ev.pos (by simp; omega) <| Ev.ret ?_
    rw [e]
    simp [toS]
  | succ j ih =>
    intro hj hhi
    have hjl : j < l.length := by omega
    have hrd := toS_rd l j hjl
    have hpj : wrap64 (((j + 1 : Nat) : Int) - 1) = (j : Int) := by rw [wrap_small _ (by omega)]; omega
    have hk1 := rkey t ht.1
    have hk2 := rkey l[j] (hc _ (List.getElem_mem hjl)).1
    refine Ev.step (fun k => by rw [concordanceref08_PutTerm.l0, hpj, hrd]) ?_
    refine Ev.pos (by omega) (Ev.const hk1 ?_)
    refine Ev.pos (by omega) (Ev.pos (by rw [List.length_map]; omega) ?_)
    refine Ev.const (show concordanceref02_Key.f (toS l[j]).f0 (toS l[j]).f1 = some (keyS l[j]) from hk2) ?_
    rw [keyS_list, keyS_list]
    by_cases hlt : keyB t < keyB l[j]
    · refine Ev.pos ((bytesLess_lt _ _).2 hlt) (ih (by omega) (fun q hq hqj => ?_))
      rcases Nat.lt_or_ge j q with h | h
      · exact hhi q hq h
      · obtain rfl : q = j := by omega
        exact hlt
    · refine Ev.neg (fun h => hlt ((bytesLess_lt _ _).1 h)) ?_
      by_cases heq : l[j] = t
      · refine Ev.pos ?_ (Ev.ret ?_)
        · show (l[j].1.toList == t.1.toList && l[j].2.toList == t.2.toList) = true
          rw [heq]; simp
        · rw [insT_there hr hz (heq ▸ List.getElem_mem hjl)]
      · have e := insT_split hr hz ht.2 (j + 1) hj hhi (fun h => ⟨hlt, heq⟩)
        refine Ev.neg ?_ <| Ev.pos (by omega) <| Ev.pos (by rw [List.length_map]; omega) <| Ev.const rfl <| Ev.pos (by simp; omega) <| Ev.const rfl <| Ev.pos (by simp; omega) <| Ev.const rfl <| Ev.const rfl <| Ev.pos (by simp; omega) <| Ev.ret ?_
        · show ¬ (l[j].1.toList == t.1.toList && l[j].2.toList == t.2.toList) = true
          rw [Bool.and_eq_true, beq_iff_eq, beq_iff_eq, bytes_ne, bytes_ne]
          exact fun h => heq (Prod.ext h.1 h.2)
        · rw [e, Int.toNat_natCast]
          simp [toS]
theorem putTerm_ev {l : List Tm} {t : Tm} (hr : Rise l) (hc : Clean l) (ht : Tiny t ∧ NoZero t.1.data.toList) (hl : l.length ≤ 1000000000000) : Ev (fun k => concordanceref08_PutTerm.f k (l.map toS) t.1 t.2) ((insT l t).map toS) := by
  unfold concordanceref08_PutTerm.f
  rw [List.length_map]
  exact putTerm_loop hr hc ht hl l.length (Nat.le_refl _) (fun q hq h => by omega)
theorem termsOf_snoc (pre : List Occ) (o : Occ) : termsOf (pre ++ [o]) = insT (termsOf pre) (tmOf o) := by unfold termsOf; rw [List.map_append, List.foldl_append]; rfl
theorem insT_len (l : List Tm) (t : Tm) : (insT l t).length ≤ l.length + 1 := by
  induction l with
  | nil => simp [insT]
  | cons a l ih =>
    unfold insT
    split
    · simp
    · split
      · simp
      · simp; omega
theorem termsOf_len (pre : List Occ) : (termsOf pre).length ≤ pre.length := by
  have h : ∀ (l acc : List Tm), (l.foldl insT acc).length ≤ acc.length + l.length := by
    intro l
    induction l with
    | nil => intro acc; simp
    | cons u l ih => intro acc; have := ih (insT acc u); have := insT_len acc u; rw [List.foldl_cons, List.length_cons]; omega
  have := h (pre.map tmOf) []
  rw [List.length_map] at this
  unfold termsOf
  simpa using this
theorem clean_terms {l : List Fd} (h1 : docOk l) (h2 : namesOk l) {pre : List Occ} (hp : ∀ o ∈ pre, o ∈ occ l) : Clean (termsOf pre) ∧ Rise (termsOf pre) := by
  refine ⟨fun u hu => ?_, rise_termsOf pre (fun o ho => (occ_tiny h1 h2 (hp o ho)).2)⟩
  obtain ⟨o, ho, rfl⟩ := (mem_termsOf pre u).1 hu
  exact occ_tiny h1 h2 (hp o ho)
theorem terms_loop (id : Int) (l : List Fd) (h1 : docOk l) (h2 : namesOk l) (hN : Nice l) (d : Nat) : ∀ i : Nat, i + d = l.length → Ev (fun k => concordanceref08_Terms.l0 k ((termsOf (occ (l.take i))).map toS) (i : Int) id l) ((termsOf (occ l)).map toS) := by
  have hll := h1.1
  have hol := h1.occ
  induction d with
  | zero =>
    intro i hi
    refine Ev.step (fun k => by rw [concordanceref08_Terms.l0]) (Ev.neg (by omega) (Ev.ret ?_))
    rw [List.take_of_length_le (by omega)]
  | succ d ih =>
    intro i hi
    have hil : i < l.length := by omega
    have hrd := rdF_nat l i hil
    have hg := ih (i + 1) (by omega)
    rw [occ_take l i hil] at hg
    have hwl := wordsT_len l[i].f1
    have hsz := h1.2 _ (List.getElem_mem hil)
    have hsub : ∀ o ∈ occ (l.take i) ++ occF l[i].f0 (wordsT l[i].f1), o ∈ occ l := by
      intro o ho
      rw [← occ_take l i hil] at ho
      unfold occ at ho ⊢
      obtain ⟨f, hf, hf2⟩ := List.mem_flatMap.1 ho
      exact List.mem_flatMap.2 ⟨f, List.mem_of_mem_take hf, hf2⟩
    have hlen : (occ (l.take i) ++ occF l[i].f0 (wordsT l[i].f1)).length ≤ 1000001000 := by
      rw [← occ_take l i hil]
      exact Nat.le_trans (occ_take_le l (i + 1)) hol
    refine Ev.step (fun k => by rw [concordanceref08_Terms.l0, hrd]) (Ev.pos (by omega) (Ev.pos (by omega) (Ev.bind (words8_ev id l l[i].f0 h1) ?_)))
    rw [words8_own hN i hil]
    obtain ⟨W, hW⟩ : ∃ W, W = wordsT l[i].f1 := ⟨_, rfl⟩
    rw [← hW] at hg hsub hlen hwl ⊢
    have inner : ∀ (c j : Nat), j + c = W.length → Ev (fun k => concordanceref08_Terms.l1 k ((termsOf (occ (l.take i) ++ (occF l[i].f0 W).take j)).map toS) (i : Int) W (j : Int) id l) ((termsOf (occ l)).map toS) := by
      intro c
      induction c with
      | zero =>
        intro j hj
        rw [show (occF l[i].f0 W).take j = occF l[i].f0 W from List.take_of_length_le (by rw [occF_len]; omega)]
        exact Ev.step (fun k => by rw [concordanceref08_Terms.l1, wrap_nat i (by omega)]) (Ev.neg (by omega) hg)
      | succ c ihc =>
        intro j hj
        have hjl : j < W.length := by omega
        have hg2 := ihc (j + 1) (by omega)
        have hpre : ∀ o ∈ occ (l.take i) ++ (occF l[i].f0 W).take j, o ∈ occ l := by
          intro o ho
          refine hsub o ?_
          rcases List.mem_append.1 ho with ho | ho
          · exact List.mem_append_left _ ho
          · exact List.mem_append_right _ (List.mem_of_mem_take ho)
        obtain ⟨c1, c2⟩ := clean_terms h1 h2 hpre
        have hto : (l[i].f0, W[j], j) ∈ occ l := by
          refine hsub _ (List.mem_append_right _ ?_)
          rw [← occF_get l[i].f0 W j hjl]
          exact List.getElem_mem _
        have hcl := occ_tiny h1 h2 hto
        have hln := termsOf_len (occ (l.take i) ++ (occF l[i].f0 W).take j)
        have hln2 : (occ (l.take i) ++ (occF l[i].f0 W).take j).length ≤ (occ (l.take i) ++ occF l[i].f0 W).length := by
          rw [List.length_append, List.length_append, List.length_take]; omega
        rw [occF_take l[i].f0 W j hjl, ← List.append_assoc, termsOf_snoc] at hg2
        exact Ev.step (fun k => by rw [concordanceref08_Terms.l1, hrd, rdS_lt W j hjl, wrap_nat j (by omega)]) <| Ev.pos (by omega) <| Ev.pos (by omega) <| Ev.pos (by omega) <| Ev.pos (by omega) <| Ev.bind (putTerm_ev (t := (l[i].f0, W[j])) c2 c1 hcl (by omega)) hg2
    have := inner W.length 0 (by omega)
    rw [List.take_zero, List.append_nil] at this
    exact this
theorem terms_ev (id : Int) (l : List Fd) (h1 : docOk l) (h2 : namesOk l) (hN : Nice l) : Ev (fun k => concordanceref08_Terms.f k id l) ((termsOf (occ l)).map toS) := by
  unfold concordanceref08_Terms.f
  exact terms_loop id l h1 h2 hN l.length 0 (by omega)

/-! ### Weight -/

end Go.Proofs.Ytbbfilmajiilhaa

/- The document's example, plain. No condition. -/
set_option linter.unusedVariables false
set_option linter.unusedSimpArgs false
namespace Go.Proofs.Ytbbfilmajiilhaa
open Go.RowKit Go.Proofs.Ytbbfilmajiilhaa.PAll Go.Proofs.YtbbfilmajiilhaaW.PrintWords Go.Proofs.YtbbfilmajiilhaaW.PrintLast

def exD : List Fd := [⟨⟨#[116]⟩, ⟨#[98, 32, 97, 32, 98]⟩⟩]
theorem ex_words : wordsT (⟨#[98, 32, 97, 32, 98]⟩ : ByteArray) = [⟨#[98]⟩, ⟨#[97]⟩, ⟨#[98]⟩] := by decide +kernel
theorem ex_occ : occ exD = [(⟨#[116]⟩, ⟨#[98]⟩, 0), (⟨#[116]⟩, ⟨#[97]⟩, 1), (⟨#[116]⟩, ⟨#[98]⟩, 2)] := by
  unfold occ exD
  rw [List.flatMap_cons, ex_words]
  rfl
theorem ex_terms : termsOf (occ exD) = [(⟨#[116]⟩, ⟨#[97]⟩), (⟨#[116]⟩, ⟨#[98]⟩)] := by rw [ex_occ]; decide +kernel
theorem ex_places : (termsOf (occ exD)).map (placesIn (occ exD)) = [[1], [0, 2]] := by rw [ex_terms, ex_occ]; decide +kernel
theorem ex_ok : docOk exD ∧ namesOk exD := by decide +kernel
theorem ex_invert : doc_Invert.f 0 exD = some ([⟨⟨#[116]⟩, ⟨#[97]⟩⟩, ⟨⟨#[116]⟩, ⟨#[98]⟩⟩], [[1], [0, 2]]) := by
  unfold doc_Invert.f
  rw [if_pos ex_ok, ex_places, ex_terms]
  rfl
theorem ex_phr : phrD exD ⟨#[116]⟩ [⟨#[98]⟩, ⟨#[97]⟩] = 1 := by
  unfold phrD exD
  rw [List.map_cons, ex_words]
  decide +kernel
theorem lives_ev : Ev (fun k => concordancelaw08_lives.f k) true := by
  unfold concordancelaw08_lives.f
  refine Ev.const (a := exD) rfl ?_
  refine Ev.const ex_invert ?_
  refine Ev.pos rfl <| Ev.pos rfl <| Ev.pos (by decide) <| Ev.pos (by rw [ByteArray.toList_eq]; rfl) <| Ev.pos (by decide) <| Ev.pos (by rw [ByteArray.toList_eq]; rfl) <| Ev.pos (by decide) <| Ev.pos rfl <| Ev.pos (by decide) <| Ev.pos rfl ?_
  have := phrD_ev 0 exD ⟨#[116]⟩ [⟨#[98]⟩, ⟨#[97]⟩] ex_ok.1 (by decide)
  rw [ex_phr] at this
  exact Ev.bind this (Ev.ret rfl)
end Go.Proofs.Ytbbfilmajiilhaa
