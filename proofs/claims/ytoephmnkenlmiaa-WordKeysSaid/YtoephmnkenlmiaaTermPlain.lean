/- WordKeys, WordApart: terms and their keys; plain facts. No condition beyond the rows' own. -/
import Derived.Test.YtoephmnkenlmiaaPureWordJoins
import Derived.Test.YtoephmnkenlmiaaTerm
import Derived.Test.YtoephmnkenlmiaaPAllx6
import Derived.Test.YtoephmnkenlmiaaPAllx6
namespace Go.Proofs.Ytoephmnkenlmiaa.Pure
open Go.RowKit Go.Proofs.Ytoephmnkenlmiaa.PAll Go.Proofs.YtoephmnkenlmiaaW.PrintWords Go.Proofs.YtoephmnkenlmiaaW.PrintLast

def keyOf (f w : ByteArray) : ByteArray := (f ++ (⟨#[0]⟩ : ByteArray)) ++ w
theorem key_data (f w : ByteArray) : (keyOf f w).data.toList = f.data.toList ++ 0 :: w.data.toList := by unfold keyOf; rw [data_append, data_append, List.append_assoc]; rfl
theorem key_size (f w : ByteArray) : (keyOf f w).size = f.size + 1 + w.size := by rw [← size_data, key_data, List.length_append, List.length_cons, size_data, size_data]; omega
theorem key_f (f w : ByteArray) (h1 : f.size ≤ 100) (h2 : w.size ≤ 100) : word_Key.f f w = some (keyOf f w) := by
  have e : (f ++ (⟨#[0]⟩ : ByteArray)).size = f.size + 1 := by rw [← size_data, data_append, List.length_append, size_data]; rfl
  unfold word_Key.f
  rw [if_pos (by omega), if_pos (by omega)]
  rfl
theorem rkey_f (f w : ByteArray) (h1 : f.size ≤ 100) (h2 : w.size ≤ 100) : concordanceref02_Key.f f w = some (keyOf f w) := by
  have e : (f ++ (⟨#[0]⟩ : ByteArray)).size = f.size + 1 := by rw [← size_data, data_append, List.length_append, size_data]; rfl
  unfold concordanceref02_Key.f
  rw [if_pos (by omega), if_pos (by omega)]
  rfl
theorem term_ok (s : ByteArray) (h : s.size ≤ 1000) : word_Term.f s = some (termM s) := if_pos (by omega)
theorem bytes_ext {a b : ByteArray} (h : a.data.toList = b.data.toList) : a = b := by rw [← toList_inj, toList_data, toList_data, h]
theorem take_data (s : ByteArray) (n : Nat) : (s.extract 0 n).data.toList = s.data.toList.take n := by
  rw [ByteArray.data_extract, Array.toList_extract]
  simp
theorem index_mid : ∀ (f r : List UInt8), (∀ c ∈ f, c ≠ 0) → Lib.indexByte (f ++ 0 :: r) 0 = (f.length : Int)
  | [], r, _ => by simp [Lib.indexByte]
  | b :: f, r, h => by
    have hb : b ≠ 0 := h b (by simp)
    have ih := index_mid f r (fun c hc => h c (by simp [hc]))
    rw [List.cons_append]
    unfold Lib.indexByte
    rw [ih, if_neg (by simpa using hb), if_neg (by simp)]
    simp
theorem term_key (f w : ByteArray) (h : ∀ c ∈ f.data.toList, c ≠ 0) : termM (keyOf f w) = (f, w, true) := by
  have e : Lib.indexByte (keyOf f w).data.toList 0 = (f.data.toList.length : Int) := by rw [key_data]; exact index_mid _ _ h
  have hc : cutM (keyOf f w) = (f, w, true) := by
    unfold cutM
    rw [e, if_pos (by omega), Int.toNat_natCast]
    have e1 : (keyOf f w).extract 0 f.data.toList.length = f := bytes_ext (by rw [take_data, key_data, List.take_left])
    have e2 : (keyOf f w).extract (f.data.toList.length + 1) (keyOf f w).size = w := bytes_ext (by
      rw [drop_data, key_data, ← List.drop_drop, List.drop_left]; rfl)
    rw [e1, e2]
  unfold termM
  rw [hc]
  rfl
def zB (l : List UInt8) : Bool := l.any (fun c => c == 0)
theorem term_zero (s : ByteArray) : (termM s).2.2 = zB s.data.toList := by
  have hg := Lib.indexByte_ge s.data.toList 0
  unfold termM cutM
  by_cases h : 0 ≤ Lib.indexByte s.data.toList 0
  · rw [if_pos h]
    have e : Lib.indexByte s.data.toList 0 = ((Lib.indexByte s.data.toList 0).toNat : Int) := by omega
    have := (Lib.indexByte_some e).1
    show true = zB s.data.toList
    symm
    unfold zB
    rw [List.any_eq_true]
    exact ⟨0, List.mem_of_getElem? this, rfl⟩
  · rw [if_neg h]
    show false = zB s.data.toList
    symm
    unfold zB
    rw [Bool.eq_false_iff]
    intro hh
    obtain ⟨c, hc, hc0⟩ := List.any_eq_true.mp hh
    obtain ⟨i, hi⟩ := List.getElem?_of_mem hc
    have : c = 0 := by simpa using hc0
    subst this
    exact Lib.indexByte_none (show Lib.indexByte s.data.toList 0 = -1 by omega) i hi
theorem term_back (s : ByteArray) (h : (termM s).2.2 = true) : keyOf (termM s).1 (termM s).2.1 = s := by
  have hg := Lib.indexByte_ge s.data.toList 0
  unfold termM cutM at *
  by_cases h0 : 0 ≤ Lib.indexByte s.data.toList 0
  · obtain ⟨i, e⟩ : ∃ i : Nat, Lib.indexByte s.data.toList 0 = (i : Int) := ⟨(Lib.indexByte s.data.toList 0).toNat, by omega⟩
    have hs := (Lib.indexByte_some e).1
    obtain ⟨hlt, hz⟩ := List.getElem?_eq_some_iff.mp hs
    rw [if_pos h0]
    rw [e, Int.toNat_natCast]
    clear h h0 e hg hs
    refine bytes_ext ?_
    show (keyOf (s.extract 0 i) (s.extract (i + 1) s.size)).data.toList = _
    rw [key_data, take_data, drop_data, ← hz, ← List.drop_eq_getElem_cons hlt, List.take_append_drop]
  · rw [if_neg h0] at h
    cases h
theorem term_small (s : ByteArray) : (termM s).1.size ≤ s.size ∧ (termM s).2.1.size ≤ s.size := by
  cases hz : (termM s).2.2 with
  | true =>
    have := term_back s hz
    have h2 := key_size (termM s).1 (termM s).2.1
    rw [this] at h2
    omega
  | false =>
    have : termM s = (ByteArray.empty, ByteArray.empty, false) := by
      unfold termM at *
      by_cases hh : (cutM s).2.2 = true
      · rw [if_pos hh] at hz; rw [hh] at hz; cases hz
      · rw [if_neg hh]
    rw [this]
    exact ⟨Nat.zero_le _, Nat.zero_le _⟩
theorem term_not (s : ByteArray) (hz : (termM s).2.2 = false) : termM s = (ByteArray.empty, ByteArray.empty, false) := by
  unfold termM at *
  by_cases hh : (cutM s).2.2 = true
  · rw [if_pos hh] at hz; rw [hh] at hz; cases hz
  · rw [if_neg hh]

/-! clean -/
def cleanL (l : List UInt8) : List UInt8 := l.filter (fun c => !(c == 0))
theorem bt_nat (s : ByteArray) (i : Nat) (h : i < s.data.toList.length) : bt s i = ((s.data.toList[i]).toNat : Int) := by
  rw [bt_byt]
  unfold byt
  rw [List.getD_eq_getElem?_getD, List.getElem?_eq_getElem h]
  rfl
theorem u8_zero (c : UInt8) : ((c.toNat : Int) = 0) ↔ c = 0 := by
  constructor
  · intro h
    have : c.toNat = 0 := by omega
    exact UInt8.toNat_inj.mp this
  · rintro rfl; rfl
theorem clean_loop (s : ByteArray) (hs : s.size ≤ 1000) (d : Nat) : ∀ i : Nat, i + d = s.data.toList.length →
    Ev (fun k => concordancelaw02_clean.l0 k s (numsOf (cleanL (s.data.toList.take i))) (i : Int)) ⟨(cleanL s.data.toList).toArray⟩ := by
  have hsd := size_data s
  induction d with
  | zero =>
    intro i hi
    rw [List.take_of_length_le (by omega)]
    refine Ev.step (fun k => by rw [concordancelaw02_clean.l0]) (Ev.neg (by omega) (Ev.ret ?_))
    exact str_nums _
  | succ d ih =>
    intro i hi
    have hlt : i < s.data.toList.length := by omega
    have hg := ih (i + 1) (by omega)
    have hln : (numsOf (cleanL (s.data.toList.take i))).length ≤ i := by
      rw [numsOf_length]
      have := List.length_filter_le (fun c : UInt8 => !(c == 0)) (s.data.toList.take i)
      rw [List.length_take] at this
      unfold cleanL
      omega
    rw [List.take_succ_eq_append_getElem hlt] at hg
    have ef : cleanL (s.data.toList.take i ++ [s.data.toList[i]]) = cleanL (s.data.toList.take i) ++ (if s.data.toList[i] = 0 then [] else [s.data.toList[i]]) := by
      unfold cleanL
      rw [List.filter_append]
      congr 1
      by_cases hz : s.data.toList[i] = 0
      · rw [if_pos hz, hz]; rfl
      · rw [if_neg hz]
        generalize s.data.toList[i] = x at *
        simp [hz]
    rw [ef] at hg
    refine Ev.step (fun k => by rw [concordancelaw02_clean.l0, bt_nat s i hlt, wrap_small (i + 1) (by omega)]) (Ev.pos (by omega) (Ev.pos (by omega) ?_))
    by_cases hz : s.data.toList[i] = 0
    · rw [if_pos hz, List.append_nil] at hg
      exact Ev.pos ((u8_zero _).mpr hz) (by exact_mod_cast hg)
    · rw [if_neg hz, numsOf_append] at hg
      exact Ev.neg (fun h => hz ((u8_zero _).mp h)) (Ev.pos (by omega) (by exact_mod_cast hg))
theorem clean_ev (s : ByteArray) (hs : s.size ≤ 1000) : Ev (fun k => concordancelaw02_clean.f k s) ⟨(cleanL s.data.toList).toArray⟩ := by
  unfold concordancelaw02_clean.f
  exact clean_loop s hs s.data.toList.length 0 (by omega)

theorem clean_facts (s : ByteArray) (hs : s.size ≤ 30) : (⟨(cleanL s.data.toList).toArray⟩ : ByteArray).size ≤ 30 ∧ ∀ x ∈ (⟨(cleanL s.data.toList).toArray⟩ : ByteArray).data.toList, x ≠ 0 := by
  have e : (⟨(cleanL s.data.toList).toArray⟩ : ByteArray).data.toList = cleanL s.data.toList := by simp
  refine ⟨?_, fun x hx => ?_⟩
  · rw [← size_data, e]
    have := List.length_filter_le (fun c : UInt8 => !(c == 0)) s.data.toList
    rw [size_data] at this
    unfold cleanL; omega
  · rw [e] at hx
    have := (List.mem_filter.mp hx).2
    simpa using this
theorem key_inj {f w g v : ByteArray} (h1 : ∀ c ∈ f.data.toList, c ≠ 0) (h2 : ∀ c ∈ g.data.toList, c ≠ 0) (h : keyOf f w = keyOf g v) : f = g ∧ w = v := by
  have t1 := term_key f w h1
  have t2 := term_key g v h2
  rw [h, t2] at t1
  injection t1 with x1 x2
  injection x2 with x2 x3
  exact ⟨x1.symm, x2.symm⟩
theorem less_f (f w g v : ByteArray) (h1 : f.size ≤ 100) (h2 : w.size ≤ 100) (h3 : g.size ≤ 100) (h4 : v.size ≤ 100) : word_Less.f f w g v = some (Op.bytesLess (keyOf f w).toList (keyOf g v).toList) := by
  unfold word_Less.f
  rw [key_f f w h1 h2, key_f g v h3 h4]
  rfl
theorem zB_succ (l : List UInt8) (i : Nat) (h : i < l.length) : zB (l.take (i + 1)) = (zB (l.take i) || (l[i] == 0)) := by
  unfold zB
  rw [List.take_succ_eq_append_getElem h, List.any_append]
  simp
end Go.Proofs.Ytoephmnkenlmiaa.Pure
