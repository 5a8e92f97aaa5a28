import Derived.Test.YtbbfilmajiilhaaDoorBnd0
import Derived.Test.YtbbfilmajiilhaaDoorPAllx3
import Derived.Test.YtbbfilmajiilhaaDoorPAllx4
import Derived.Test.YtbbfilmajiilhaaDoorWNEv
/-! The references of layer 1, as printed: what they tell. -/
set_option linter.unusedVariables false
set_option linter.unusedSimpArgs false
namespace Go.Proofs.YtbbfilmajiilhaaDoor
open Go.RowKit Go.Proofs.YtbbfilmajiilhaaDoor.PAll Go.Proofs.YtbbfilmajiilhaaDoorW.PrintWords Go.Proofs.YtbbfilmajiilhaaDoorW.PrintLast

theorem Ev.pos {α : Type} {c : Prop} [Decidable c] {g f : Nat → Option α} {r : α} (h : c) (k : Ev g r) : Ev (fun n => if c then g n else f n) r := by simpa only [if_pos h] using k
theorem Ev.neg {α : Type} {c : Prop} [Decidable c] {g f : Nat → Option α} {r : α} (h : ¬ c) (k : Ev f r) : Ev (fun n => if c then g n else f n) r := by simpa only [if_neg h] using k
theorem Ev.ret {α : Type} {a r : α} (h : a = r) : Ev (fun _ => some a) r := h ▸ Ev.now a
theorem wrap_small (n : Int) (h : -9223372036854775808 ≤ n ∧ n ≤ 9223372036854775807) : wrap64 n = n := by unfold wrap64; omega

/-! ### Same -/
/-! ### one -/
theorem bt_byt (s : ByteArray) (i : Nat) : bt s i = byt s.data.toList i := by
  unfold bt byt
  simp only [Int.toNat_natCast]
  split
  · rename_i h
    rw [List.getD_eq_getElem?_getD, Array.getElem?_toList, Array.getElem?_eq_getElem (by exact h)]
    rfl
  · rename_i h
    rw [List.getD_eq_getElem?_getD, Array.getElem?_toList, Array.getElem?_eq_none (by have : s.data.size = s.size := rfl; omega)]
    rfl
theorem size_data (s : ByteArray) : s.data.toList.length = s.size := Array.length_toList

theorem bt_r (s : ByteArray) (i : Int) : 0 ≤ bt s i ∧ bt s i ≤ 255 := bt_range s i
theorem wrap_bt (s : ByteArray) (i : Int) : wrap64 (bt s i) = bt s i := wrap_small _ (by have := bt_r s i; omega)

/-- The loop over the bytes behind the first one, and what stands behind it: from place i on, v so far. -/
def oneTail (s : ByteArray) (n least v i : Int) : Nat → Int × Int
  | 0 => if v < least then (65533, 1) else if v > 1114111 then (65533, 1) else if 55296 ≤ v ∧ v ≤ 57343 then (65533, 1) else (v, n)
  | d + 1 => if bt s i < 128 then (65533, 1) else if bt s i ≥ 192 then (65533, 1) else oneTail s n least (64 * v + bt s i - 128) (i + 1) d

def bnd : Nat → Int
  | 0 => 1099511627776
  | d + 1 => bnd d / 64 - 2
theorem bnd_le (d : Nat) : bnd d ≤ 1099511627776 := by
  induction d with
  | zero => decide
  | succ d ih => unfold bnd; omega

theorem one_loop (s : ByteArray) (n least : Int) (hn : n ≤ s.size) (hn4 : n ≤ 4) (d : Nat) : ∀ v i : Int, 1 ≤ i → i + d = n → 0 ≤ v → v ≤ bnd d →
    Ev (fun k => concordanceref01_one.l0 k s n least v i) (oneTail s n least v i d) := by
  induction d with
  | zero =>
    intro v i h1 hi _ _
    refine Ev.step (fun k => by rw [concordanceref01_one.l0]) (Ev.neg (by omega) ?_)
    unfold oneTail
    by_cases c1 : v < least
    · refine Ev.pos c1 (Ev.ret (by rw [if_pos c1]))
    · refine Ev.neg c1 ?_
      rw [if_neg c1]
      by_cases c2 : v > 1114111
      · refine Ev.pos c2 (Ev.ret (by rw [if_pos c2]))
      · refine Ev.neg c2 ?_
        rw [if_neg c2]
        by_cases c3 : v ≥ 55296
        · refine Ev.pos c3 ?_
          by_cases c4 : v ≤ 57343
          · exact Ev.pos c4 (Ev.ret (by rw [if_pos ⟨by omega, c4⟩]))
          · exact Ev.neg c4 (Ev.ret (by rw [if_neg (by omega)]))
        · exact Ev.neg c3 (Ev.ret (by rw [if_neg (by omega)]))
  | succ d ih =>
    intro v i h1 hi h0 hv
    have hb := bt_r s i
    have hbd := bnd_le d
    have hbs : bnd (d + 1) = bnd d / 64 - 2 := rfl
    refine Ev.step (fun k => by rw [concordanceref01_one.l0, wrap_bt]) (Ev.pos (by omega) (Ev.pos (by omega) (Ev.pos (by omega) ?_)))
    unfold oneTail
    by_cases c1 : bt s i < 128
    · exact Ev.pos c1 (Ev.ret (by rw [if_pos c1]))
    · refine Ev.neg c1 ?_
      rw [if_neg c1]
      by_cases c2 : bt s i ≥ 192
      · exact Ev.pos c2 (Ev.ret (by rw [if_pos c2]))
      · refine Ev.neg c2 ?_
        rw [if_neg c2, wrap_small (64 * v) (by omega), wrap_small (64 * v + bt s i) (by omega), wrap_small (64 * v + bt s i - 128) (by omega), wrap_small (i + 1) (by omega)]
        exact ih (64 * v + bt s i - 128) (i + 1) (by omega) (by omega) (by omega) (by omega)

/-- The class of the first byte: how many bytes, the least number, the number so far. -/
theorem one_rest (s : ByteArray) (n least v : Int) (hn : n = 0 ∨ (2 ≤ n ∧ n ≤ 4)) (h0 : 0 ≤ v) (hv : v ≤ 1000) :
    Ev (fun k => concordanceref01_one.j2 k s n least v) (if n = 0 ∨ (s.size : Int) < n then (65533, 1) else oneTail s n least v 1 (n - 1).toNat) := by
  refine Ev.step (fun k => by rw [concordanceref01_one.j2]) ?_
  by_cases c : n = 0
  · refine Ev.pos c (Ev.step (fun k => by rw [concordanceref01_one.j3]) (Ev.pos rfl (Ev.ret (by rw [if_pos (.inl c)]))))
  · refine Ev.neg c (Ev.step (fun k => by rw [concordanceref01_one.j3]) ?_)
    by_cases c2 : (s.size : Int) < n
    · exact Ev.pos (decide_eq_true c2) (Ev.ret (by rw [if_pos (.inr c2)]))
    · refine Ev.neg (by simpa using c2) ?_
      rw [if_neg (by omega)]
      refine one_loop s n least (by omega) (by omega) (n - 1).toNat v 1 (by omega) (by omega) h0 ?_
      have hd : (n - 1).toNat = 1 ∨ (n - 1).toNat = 2 ∨ (n - 1).toNat = 3 := by omega
      rcases hd with h | h | h <;> rw [h]
      · exact Int.le_trans hv (by decide)
      · exact Int.le_trans hv (by decide)
      · exact Int.le_trans hv (by decide)

/-- What 'one' tells of bytes that are some. -/
def oneVal (s : ByteArray) : Int × Int :=
  if bt s 0 < 128 then (bt s 0, 1)
  else if 194 ≤ bt s 0 ∧ bt s 0 < 224 then (if (s.size : Int) < 2 then (65533, 1) else oneTail s 2 128 (bt s 0 - 192) 1 1)
  else if 224 ≤ bt s 0 ∧ bt s 0 < 240 then (if (s.size : Int) < 3 then (65533, 1) else oneTail s 3 2048 (bt s 0 - 224) 1 2)
  else if 240 ≤ bt s 0 ∧ bt s 0 < 245 then (if (s.size : Int) < 4 then (65533, 1) else oneTail s 4 65536 (bt s 0 - 240) 1 3)
  else (65533, 1)

theorem one_val (s : ByteArray) (h : 0 < s.size) : Ev (fun k => concordanceref01_one.f k s) (oneVal s) := by
  have hb := bt_r s 0
  have r0 := one_rest s 0 0 0 (.inl rfl) (by omega) (by omega)
  rw [if_pos (.inl rfl)] at r0
  unfold concordanceref01_one.f oneVal
  rw [wrap_bt]
  refine Ev.pos (by omega) ?_
  by_cases c1 : bt s 0 < 128
  · exact Ev.pos c1 (Ev.ret (by rw [if_pos c1]))
  refine Ev.neg c1 ?_
  rw [if_neg c1]
  by_cases c2 : bt s 0 ≥ 194
  · refine Ev.pos c2 (Ev.step (fun k => by rw [concordanceref01_one.j0]) ?_)
    by_cases c3 : bt s 0 < 224
    · rw [if_pos ⟨c2, c3⟩]
      refine Ev.pos (decide_eq_true c3) ?_
      rw [wrap_small _ (by omega)]
      have := one_rest s 2 128 (bt s 0 - 192) (by omega) (by omega) (by omega)
      by_cases c4 : (s.size : Int) < 2
      · rw [if_pos c4]; rw [if_pos (.inr c4)] at this; exact this
      · rw [if_neg c4]; rw [if_neg (by omega)] at this; exact this
    · rw [if_neg (by omega)]
      refine Ev.neg (by simpa using c3) (Ev.pos (by omega) (Ev.step (fun k => by rw [concordanceref01_one.j1]) ?_))
      by_cases c5 : bt s 0 < 240
      · rw [if_pos ⟨by omega, c5⟩]
        refine Ev.pos (decide_eq_true c5) ?_
        rw [wrap_small _ (by omega)]
        have := one_rest s 3 2048 (bt s 0 - 224) (by omega) (by omega) (by omega)
        by_cases c4 : (s.size : Int) < 3
        · rw [if_pos c4]; rw [if_pos (.inr c4)] at this; exact this
        · rw [if_neg c4]; rw [if_neg (by omega)] at this; exact this
      · rw [if_neg (by omega)]
        refine Ev.neg (by simpa using c5) (Ev.pos (by omega) ?_)
        by_cases c6 : bt s 0 < 245
        · rw [if_pos ⟨by omega, c6⟩]
          refine Ev.pos c6 ?_
          rw [wrap_small _ (by omega)]
          have := one_rest s 4 65536 (bt s 0 - 240) (by omega) (by omega) (by omega)
          by_cases c4 : (s.size : Int) < 4
          · rw [if_pos c4]; rw [if_pos (.inr c4)] at this; exact this
          · rw [if_neg c4]; rw [if_neg (by omega)] at this; exact this
        · rw [if_neg (by omega)]
          exact Ev.neg c6 r0
  · rw [if_neg (by omega), if_neg (by omega), if_neg (by omega)]
    refine Ev.neg c2 (Ev.step (fun k => by rw [concordanceref01_one.j0]) (Ev.neg (by simp) (Ev.neg (by omega) (Ev.step (fun k => by rw [concordanceref01_one.j1]) (Ev.neg (by simp) (Ev.neg (by omega) r0))))))

set_option maxHeartbeats 4000000 in
theorem oneVal_dec (s : ByteArray) (_h : 0 < s.size) : oneVal s = (((dec s.data.toList).1 : Int), ((dec s.data.toList).2 : Int)) := by
  have e0 : bt s 0 = (byt s.data.toList 0 : Int) := bt_byt s 0
  have e1 : bt s 1 = (byt s.data.toList 1 : Int) := bt_byt s 1
  have e2 : bt s 2 = (byt s.data.toList 2 : Int) := bt_byt s 2
  have e3 : bt s 3 = (byt s.data.toList 3 : Int) := bt_byt s 3
  have h0 := byt_lt s.data.toList 0; have h1 := byt_lt s.data.toList 1; have h2 := byt_lt s.data.toList 2; have h3 := byt_lt s.data.toList 3
  have t1 : ∀ n least v : Int, oneTail s n least v 1 1 = if bt s 1 < 128 then (65533, 1) else if bt s 1 ≥ 192 then (65533, 1) else oneTail s n least (64 * v + bt s 1 - 128) 2 0 := fun _ _ _ => rfl
  have t2 : ∀ n least v : Int, oneTail s n least v 1 2 = if bt s 1 < 128 then (65533, 1) else if bt s 1 ≥ 192 then (65533, 1) else if bt s 2 < 128 then (65533, 1) else if bt s 2 ≥ 192 then (65533, 1) else oneTail s n least (64 * (64 * v + bt s 1 - 128) + bt s 2 - 128) 3 0 := fun _ _ _ => rfl
  have t3 : ∀ n least v : Int, oneTail s n least v 1 3 = if bt s 1 < 128 then (65533, 1) else if bt s 1 ≥ 192 then (65533, 1) else if bt s 2 < 128 then (65533, 1) else if bt s 2 ≥ 192 then (65533, 1) else if bt s 3 < 128 then (65533, 1) else if bt s 3 ≥ 192 then (65533, 1) else oneTail s n least (64 * (64 * (64 * v + bt s 1 - 128) + bt s 2 - 128) + bt s 3 - 128) 4 0 := fun _ _ _ => rfl
  have t0 : ∀ n least v i : Int, oneTail s n least v i 0 = if v < least then (65533, 1) else if v > 1114111 then (65533, 1) else if 55296 ≤ v ∧ v ≤ 57343 then (65533, 1) else (v, n) := fun _ _ _ _ => rfl
  unfold oneVal
  rw [t1, t2, t3, t0, t0, t0, e0, e1, e2, e3]
  unfold dec
  rw [size_data]
  clear t0 t1 t2 t3 e0 e1 e2 e3
  generalize byt s.data.toList 0 = b0 at *
  generalize byt s.data.toList 1 = b1 at *
  generalize byt s.data.toList 2 = b2 at *
  generalize byt s.data.toList 3 = b3 at *
  generalize s.size = n at *
  clear s
  unfold Lib.decodeN
  by_cases c1 : b0 < 128
  · rw [if_pos (by omega), if_pos c1]; rfl
  rw [if_neg (by omega), if_neg c1]
  by_cases c2 : b0 < 192
  · rw [if_neg (by omega), if_neg (by omega), if_neg (by omega), if_neg (by omega), if_neg (by omega), if_neg (by omega)]; rfl
  by_cases c3 : b0 < 224
  · rw [if_neg (show ¬ (224 ≤ (b0 : Int) ∧ (b0 : Int) < 240) by omega), if_neg (show ¬ (240 ≤ (b0 : Int) ∧ (b0 : Int) < 245) by omega),
      if_neg (show ¬ (b0 / 16 = 14 ∧ (1 < n ∧ b1 / 64 = 2) ∧ (2 < n ∧ b2 / 64 = 2)) by omega), if_neg (show ¬ (b0 / 8 = 30 ∧ (1 < n ∧ b1 / 64 = 2) ∧ (2 < n ∧ b2 / 64 = 2) ∧ (3 < n ∧ b3 / 64 = 2)) by omega)]
    repeat' split
    all_goals first | rfl | (exfalso; omega) | (simp only [Prod.mk.injEq]; omega)
  by_cases c6 : b0 < 240
  · rw [if_neg (show ¬ (194 ≤ (b0 : Int) ∧ (b0 : Int) < 224) by omega), if_pos (show 224 ≤ (b0 : Int) ∧ (b0 : Int) < 240 by omega), if_neg (show ¬ (b0 / 32 = 6 ∧ (1 < n ∧ b1 / 64 = 2)) by omega),
      if_neg (show ¬ (b0 / 8 = 30 ∧ (1 < n ∧ b1 / 64 = 2) ∧ (2 < n ∧ b2 / 64 = 2) ∧ (3 < n ∧ b3 / 64 = 2)) by omega)]
    repeat' split
    all_goals first | rfl | (exfalso; omega) | (simp only [Prod.mk.injEq]; omega)
  rw [if_neg (show ¬ (194 ≤ (b0 : Int) ∧ (b0 : Int) < 224) by omega), if_neg (show ¬ (224 ≤ (b0 : Int) ∧ (b0 : Int) < 240) by omega), if_neg (show ¬ (b0 / 32 = 6 ∧ (1 < n ∧ b1 / 64 = 2)) by omega), if_neg (show ¬ (b0 / 16 = 14 ∧ (1 < n ∧ b1 / 64 = 2) ∧ (2 < n ∧ b2 / 64 = 2)) by omega)]
  by_cases c8 : (1 < n ∧ b1 / 64 = 2) ∧ (2 < n ∧ b2 / 64 = 2) ∧ (3 < n ∧ b3 / 64 = 2)
  · by_cases c9 : b0 < 248
    · rw [if_pos (show b0 / 8 = 30 ∧ (1 < n ∧ b1 / 64 = 2) ∧ (2 < n ∧ b2 / 64 = 2) ∧ (3 < n ∧ b3 / 64 = 2) from ⟨by omega, c8⟩)]
      have ev : (64 * (64 * (64 * ((b0 : Int) - 240) + b1 - 128) + b2 - 128) + b3 - 128) = ((b0 % 8 * 262144 + b1 % 64 * 4096 + b2 % 64 * 64 + b3 % 64 : Nat) : Int) := by omega
      have ev2 : 245 ≤ b0 → 1114111 < b0 % 8 * 262144 + b1 % 64 * 4096 + b2 % 64 * 64 + b3 % 64 := by omega
      rw [ev]
      generalize b0 % 8 * 262144 + b1 % 64 * 4096 + b2 % 64 * 64 + b3 % 64 = v at *
      repeat' split
      all_goals first | rfl | (exfalso; omega)
    · rw [if_neg (show ¬ (b0 / 8 = 30 ∧ (1 < n ∧ b1 / 64 = 2) ∧ (2 < n ∧ b2 / 64 = 2) ∧ (3 < n ∧ b3 / 64 = 2)) by omega), if_neg (show ¬ (240 ≤ (b0 : Int) ∧ (b0 : Int) < 245) by omega)]; rfl
  · rw [if_neg (show ¬ (b0 / 8 = 30 ∧ (1 < n ∧ b1 / 64 = 2) ∧ (2 < n ∧ b2 / 64 = 2) ∧ (3 < n ∧ b3 / 64 = 2)) from fun h => c8 h.2)]
    by_cases c9 : 240 ≤ (b0 : Int) ∧ (b0 : Int) < 245
    · rw [if_pos c9]
      by_cases d0 : (n : Int) < 4
      · rw [if_pos d0]; rfl
      rw [if_neg d0]
      by_cases d1 : (b1 : Int) < 128
      · rw [if_pos d1]; rfl
      rw [if_neg d1]
      by_cases d2 : (b1 : Int) ≥ 192
      · rw [if_pos d2]; rfl
      rw [if_neg d2]
      by_cases d3 : (b2 : Int) < 128
      · rw [if_pos d3]; rfl
      rw [if_neg d3]
      by_cases d4 : (b2 : Int) ≥ 192
      · rw [if_pos d4]; rfl
      rw [if_neg d4]
      by_cases d5 : (b3 : Int) < 128
      · rw [if_pos d5]; rfl
      rw [if_neg d5]
      by_cases d6 : (b3 : Int) ≥ 192
      · rw [if_pos d6]; rfl
      omega
    · rw [if_neg c9]; rfl

theorem one_ev (s : ByteArray) (h : 0 < s.size) : Ev (fun k => concordanceref01_one.f k s) (((dec s.data.toList).1 : Int), ((dec s.data.toList).2 : Int)) := by
  rw [← oneVal_dec s h]; exact one_val s h
/-! ### Signs -/
theorem drop_data (s : ByteArray) (n : Nat) : (s.extract n s.size).data.toList = s.data.toList.drop n := by
  rw [ByteArray.data_extract, Array.toList_extract]
  have : s.data.size = s.size := rfl
  rw [← this]
  simp [List.take_of_length_le]
theorem rsigns_loop (d : Nat) : ∀ (s : ByteArray) (acc : List Int), s.size ≤ d → s.size + acc.length ≤ 1000000000000 →
    Ev (fun k => concordanceref01_Signs.l0 k s acc) (acc ++ signs s.data.toList) := by
  induction d with
  | zero =>
    intro s acc hd _
    refine Ev.step (fun k => by rw [concordanceref01_Signs.l0]) (Ev.neg (by omega) (Ev.ret ?_))
    have : s.data.toList = [] := List.eq_nil_of_length_eq_zero (by rw [size_data]; omega)
    rw [this, signs_nil, List.append_nil]
  | succ d ih =>
    intro s acc hd hl
    by_cases h0 : s.size = 0
    · refine Ev.step (fun k => by rw [concordanceref01_Signs.l0]) (Ev.neg (by omega) (Ev.ret ?_))
      have : s.data.toList = [] := List.eq_nil_of_length_eq_zero (by rw [size_data]; omega)
      rw [this, signs_nil, List.append_nil]
    · have hw := dec_width s.data.toList (by rw [size_data]; omega)
      rw [size_data] at hw
      refine Ev.step (fun k => by rw [concordanceref01_Signs.l0]) (Ev.pos (by omega) (Ev.bind (one_ev s (by omega)) ?_))
      dsimp only
      refine Ev.pos (by omega) (Ev.pos (by omega) (Ev.pos (by omega) ?_))
      rw [Int.toNat_natCast, signs_step s.data.toList (by rw [size_data]; omega), ← drop_data]
      have hsz : (s.extract (dec s.data.toList).2 s.size).size = s.size - (dec s.data.toList).2 := by rw [← size_data, drop_data, List.length_drop, size_data]
      have hi := ih (s.extract (dec s.data.toList).2 s.size) (acc ++ [((dec s.data.toList).1 : Int)]) (by rw [hsz]; omega) (by rw [List.length_append, hsz]; simp; omega)
      rw [List.append_assoc, List.singleton_append] at hi
      exact hi
theorem rsigns_ev (s : ByteArray) (h : s.size ≤ 1000000000000) : Ev (fun k => concordanceref01_Signs.f k s) (signs s.data.toList) := by
  unfold concordanceref01_Signs.f
  have := rsigns_loop s.size s [] (Nat.le_refl _) (by simpa using h)
  simpa using this

/-! ### Text -/
def numsOf (l : List UInt8) : List Int := l.map (fun b => (b.toNat : Int))
theorem numsOf_append (a b : List UInt8) : numsOf (a ++ b) = numsOf a ++ numsOf b := List.map_append
theorem numsOf_length (a : List UInt8) : (numsOf a).length = a.length := List.length_map _
theorem str_nums (l : List UInt8) : strOfNums (numsOf l) = ⟨l.toArray⟩ := by
  unfold strOfNums numsOf
  rw [List.map_map]
  congr 2
  refine (List.map_congr_left (fun b _ => ?_)).trans (List.map_id _)
  simp [Function.comp]
theorem nums_encode (c : Int) : numsOf (Lib.encodeRune c) = Lib.encodeRuneZ c := by
  unfold numsOf Lib.encodeRune
  rw [List.map_map]
  have : ∀ x ∈ Lib.encodeRuneZ c, ((fun b : UInt8 => (b.toNat : Int)) ∘ fun x : Int => x.toNat.toUInt8) x = x := by
    intro x hx
    have hb := Lib.encodeRuneZ_byte c x hx
    simp only [Function.comp]
    rw [toU8 x hb.1 hb.2]
    omega
  exact (List.map_congr_left this).trans (List.map_id _)

theorem text_j2 (l : List Int) (acc : List UInt8) (i : Nat) (c : Int) (r : ByteArray) (hi : i < l.length) (hl : l.length ≤ 1000000000000) (ha : acc.length ≤ 4 * i) (hc : okChar c)
    (h : Ev (fun k => concordanceref01_Text.l0 k l (numsOf (acc ++ Lib.encodeRune c)) ((i + 1 : Nat) : Int)) r) : Ev (fun k => concordanceref01_Text.j2 k l (numsOf acc) i c) r := by
  unfold okChar at hc
  have hw : wrap64 ((i : Int) + 1) = ((i + 1 : Nat) : Int) := by rw [wrap_small _ (by omega)]; omega
  have hln := numsOf_length acc
  refine Ev.step (fun k => by rw [concordanceref01_Text.j2]) ?_
  rw [hw]
  rw [numsOf_append, nums_encode] at h
  by_cases c1 : c < 128
  · refine Ev.pos c1 (Ev.pos (by omega) ?_)
    rw [Lib.encodeRuneZ_one (by omega) (by omega)] at h
    rw [show c % 256 = c by omega]
    exact h
  refine Ev.neg c1 ?_
  by_cases c2 : c < 2048
  · refine Ev.pos c2 (Ev.bind (Ev.now _) (Ev.pos (by simp; omega) ?_))
    rw [Lib.encodeRuneZ_two (by omega) (by omega)] at h
    rw [show Int.tdiv c 64 = c / 64 from Int.tdiv_eq_ediv_of_nonneg (by omega), show Int.tmod c 64 = c % 64 from Int.tmod_eq_emod_of_nonneg (by omega), wrap_small (c / 64) (by omega), wrap_small (192 + c / 64) (by omega), wrap_small (128 + c % 64) (by omega), show (192 + c / 64) % 256 = 192 + c / 64 by omega, show (128 + c % 64) % 256 = 128 + c % 64 by omega]
    exact h
  refine Ev.neg c2 ?_
  by_cases c3 : c < 65536
  · refine Ev.pos c3 (Ev.bind (Ev.now _) (Ev.pos (by simp; omega) ?_))
    rw [Lib.encodeRuneZ_three (by omega)] at h
    rw [show Int.tdiv c 4096 = c / 4096 from Int.tdiv_eq_ediv_of_nonneg (by omega), show Int.tdiv c 64 = c / 64 from Int.tdiv_eq_ediv_of_nonneg (by omega), show Int.tmod c 64 = c % 64 from Int.tmod_eq_emod_of_nonneg (by omega), wrap_small (c / 64) (by omega), wrap_small (c / 4096) (by omega), show Int.tmod (c / 64) 64 = c / 64 % 64 from Int.tmod_eq_emod_of_nonneg (by omega),
      wrap_small (224 + c / 4096) (by omega), wrap_small (128 + c / 64 % 64) (by omega), wrap_small (128 + c % 64) (by omega), show (224 + c / 4096) % 256 = 224 + c / 4096 by omega, show (128 + c / 64 % 64) % 256 = 128 + c / 64 % 64 by omega, show (128 + c % 64) % 256 = 128 + c % 64 by omega]
    exact h
  refine Ev.neg c3 (Ev.bind (Ev.now _) (Ev.pos (by simp; omega) ?_))
  rw [Lib.encodeRuneZ_four (by omega) (by omega)] at h
  rw [show Int.tdiv c 262144 = c / 262144 from Int.tdiv_eq_ediv_of_nonneg (by omega), show Int.tdiv c 4096 = c / 4096 from Int.tdiv_eq_ediv_of_nonneg (by omega), show Int.tdiv c 64 = c / 64 from Int.tdiv_eq_ediv_of_nonneg (by omega), show Int.tmod c 64 = c % 64 from Int.tmod_eq_emod_of_nonneg (by omega), wrap_small (c / 64) (by omega), wrap_small (c / 4096) (by omega), wrap_small (c / 262144) (by omega),
    show Int.tmod (c / 64) 64 = c / 64 % 64 from Int.tmod_eq_emod_of_nonneg (by omega), show Int.tmod (c / 4096) 64 = c / 4096 % 64 from Int.tmod_eq_emod_of_nonneg (by omega),
    wrap_small (240 + c / 262144) (by omega), wrap_small (128 + c / 4096 % 64) (by omega), wrap_small (128 + c / 64 % 64) (by omega), wrap_small (128 + c % 64) (by omega), show (240 + c / 262144) % 256 = 240 + c / 262144 by omega, show (128 + c / 4096 % 64) % 256 = 128 + c / 4096 % 64 by omega, show (128 + c / 64 % 64) % 256 = 128 + c / 64 % 64 by omega, show (128 + c % 64) % 256 = 128 + c % 64 by omega]
  exact h

theorem text_loop (l : List Int) (hl : l.length ≤ 1000000000000) (d : Nat) : ∀ i : Nat, i + d = l.length →
    Ev (fun k => concordanceref01_Text.l0 k l (numsOf (text (l.take i))) (i : Int)) ⟨(text l).toArray⟩ := by
  induction d with
  | zero =>
    intro i hi
    refine Ev.step (fun k => by rw [concordanceref01_Text.l0]) (Ev.neg (by omega) (Ev.ret ?_))
    rw [str_nums, List.take_of_length_le (by omega)]
  | succ d ih =>
    intro i hi
    have hlt : i < l.length := by omega
    have hr : rd l i = l[i] := by unfold rd; simp; rw [List.getElem?_eq_getElem (by omega)]; rfl
    have htl := text_length (l.take i)
    have htk : (l.take i).length ≤ i := List.length_take_le _ _
    have hn := ih (i + 1) (by omega)
    rw [List.take_succ_eq_append_getElem hlt, text_append, ← hr, show text [rd l i] = Lib.encodeRune (rd l i) by simp [text], ← encode_good] at hn
    have hj := text_j2 l (text (l.take i)) i (good (rd l i)) _ hlt hl (by omega) (good_ok _) hn
    have bad : ¬ okChar (rd l i) → Ev (fun k => concordanceref01_Text.j1 k l (numsOf (text (l.take i))) i (rd l i) true) ⟨(text l).toArray⟩ := fun hb => by
      rw [show good (rd l i) = 65533 from if_neg hb] at hj
      exact Ev.step (fun k => by rw [concordanceref01_Text.j1]) (Ev.pos rfl hj)
    have ok : okChar (rd l i) → ∀ b, b = false → Ev (fun k => concordanceref01_Text.j1 k l (numsOf (text (l.take i))) i (rd l i) b) ⟨(text l).toArray⟩ := fun hb b e => by
      subst e
      rw [good_of_ok hb] at hj
      exact Ev.step (fun k => by rw [concordanceref01_Text.j1]) (Ev.neg (by simp) hj)
    refine Ev.step (fun k => by rw [concordanceref01_Text.l0]) (Ev.pos (by omega) (Ev.pos (by omega) ?_))
    by_cases c1 : rd l i < 0
    · exact Ev.pos c1 (bad (by unfold okChar; omega))
    refine Ev.neg c1 ?_
    by_cases c2 : rd l i > 1114111
    · exact Ev.pos c2 (bad (by unfold okChar; omega))
    refine Ev.neg c2 ?_
    by_cases c3 : rd l i ≥ 55296
    · refine Ev.pos c3 ?_
      by_cases c4 : rd l i ≤ 57343
      · rw [decide_eq_true c4]; exact bad (by unfold okChar; omega)
      · exact ok (by unfold okChar; omega) _ (decide_eq_false c4)
    · exact Ev.neg c3 (ok (by unfold okChar; omega) _ rfl)
theorem rtext_ev (l : List Int) (h : l.length ≤ 1000000000000) : Ev (fun k => concordanceref01_Text.f k l) ⟨(text l).toArray⟩ := by
  unfold concordanceref01_Text.f
  exact text_loop l h l.length 0 (by omega)
end Go.Proofs.YtbbfilmajiilhaaDoor
