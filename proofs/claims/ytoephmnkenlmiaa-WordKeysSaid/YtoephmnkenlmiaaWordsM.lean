import Derived.Test.YtoephmnkenlmiaaWords
/-! word.Words, whole. -/
namespace Go.Proofs.Ytoephmnkenlmiaa
open Go.RowKit Go.Proofs.YtoephmnkenlmiaaW.PrintWords Go.Proofs.YtoephmnkenlmiaaW.PrintLast Go.Proofs.YtoephmnkenlmiaaW.PrintMore

def stAt (l : List Int) (k : Nat) : List ByteArray × List Int := (l.take k).foldl stepW ([], [])
def wordsOf (l : List Int) : List ByteArray := (stepW (l.foldl stepW ([], [])) 32).1
theorem stepW_len (st : List ByteArray × List Int) (c : Int) : (stepW st c).1.length ≤ st.1.length + 1 ∧ (stepW st c).2.length ≤ st.2.length + 1 := by
  unfold stepW
  split
  · simp
  · split <;> simp
theorem stAt_succ (l : List Int) (k : Nat) (h : k < l.length) : stAt l (k + 1) = stepW (stAt l k) l[k] := by
  unfold stAt
  rw [List.take_succ_eq_append_getElem h, List.foldl_append]; rfl
theorem stAt_len (l : List Int) : ∀ k, (stAt l k).1.length ≤ k ∧ (stAt l k).2.length ≤ k
  | 0 => by simp [stAt]
  | k + 1 => by
    have ih := stAt_len l k
    by_cases h : k < l.length
    · rw [stAt_succ l k h]
      have := stepW_len (stAt l k) l[k]
      omega
    · have e : stAt l (k + 1) = stAt l k := by unfold stAt; rw [List.take_of_length_le (by omega), List.take_of_length_le (by omega)]
      rw [e]; omega
theorem stAt_all (l : List Int) : stAt l l.length = l.foldl stepW ([], []) := by unfold stAt; rw [List.take_length]

theorem Keep2.below {N Bo Bw B : Nat} {w w' : World} (h : Keep2 N Bo Bw w w') (h1 : B ≤ N) (h2 : B ≤ Bo) (h3 : B ≤ Bw) : Below B w w' := ⟨h.1.os, h.1.tape, h.1.output, h.1.size, fun k hk => h.2 k (by omega) (by omega) (by omega)⟩

theorem R_lowS {e base base' : Nat} {w : World} {v : Value} {l : List ByteArray} (h : Kd.R Kd.string e w base (fun _ => True) v l) (hb : base' ≤ base) : Kd.R Kd.string e w base' (fun _ => True) v l := Kd.R_of_own (own_weaken (Kd.own_of_R h) hb) (fun _ _ => trivial)
set_option maxHeartbeats 1000000 in
set_option maxRecDepth 100000 in
theorem words_any (s : ByteArray) (w : World) (hs : s.size ≤ 1000000000) :
    Calls Try.prog 11 #[.string s] w fun e w' => ∃ v, e = .returned v ∧ Kd.R Kd.string 9 w' w.heap.size (fun _ => True) v (wordsOf (signs s.data.toList)) ∧ Below w.heap.size w w' := by
  have hsl : (signs s.data.toList).length ≤ 1000000000 := by have := signs_length s.data.toList; have : s.data.toList.length = s.size := Array.length_toList; omega
  have hok : sign_Signs.f s = some (signs s.data.toList) := if_pos (by omega)
  have hW := Lib.hid (show wordsOf (signs s.data.toList) = (stepW (stAt (signs s.data.toList) (signs s.data.toList).length) 32).1 by rw [stAt_all]; rfl)
  have hS := Lib.hid (stAt_succ (signs s.data.toList))
  have hL := Lib.hid (stAt_len (signs s.data.toList))
  generalize wordsOf (signs s.data.toList) = out at *
  generalize signs s.data.toList = l at *
  go_enter Try.func11, Try.ntmps11
  have hmf := fun (w : World) (fn : Fn) (a b : Value) => (rfl : (Instr.makeFunc fn #[] #[a, b]).run Try.prog w = _)
  go_wp2_with fail
  refine (sign_Signs.calls s l _ hok).mono ?_
  rintro e w1 ⟨v, rfl, hR, hb⟩
  obtain ⟨A, c, rfl⟩ := Kd.R_slice hR
  have q1 : Boxed w1 w.heap.size 23 (.slice none 0 0) := boxed_below ((Boxed.new w 23 (.slice none 0 0)).alloc _) hb
  have q2 : Boxed w1 (w.heap.size + 1) 45 (.slice none 0 0) := by
    have h := Boxed.new (w.alloc (.cells #[.slice none 0 0] 23)) 45 (.slice none 0 0)
    rw [World.size_alloc] at h
    exact boxed_below h hb
  have hb1 : Below w.heap.size w w1 := (((Below.refl _ w).alloc (Nat.le_refl _) _).alloc (by simp) _).trans (hb.mono (by simp; omega))
  have hsz : w.heap.size + 2 ≤ w1.heap.size := by have := hb.size; simp at this; omega
  have hRl := Kd.R_mono (Kd.R_bound hR) (ok' := fun k => k < w1.heap.size ∧ k ≠ w.heap.size ∧ k ≠ w.heap.size + 1) (fun k hk => ⟨hk.2.2.1, by have := hk.2.1; simp at this; omega, by have := hk.2.1; simp at this; omega⟩)
  have hst0 : TakeSt w1.heap.size w.heap.size (w.heap.size + 1) (stAt l 0) w1 := ⟨_, _, q1, q2, Kd.R_nil _ _ _ _ _, Kd.R_nil _ _ _ _ _⟩
  clear hR hb
  go_wp2_with fail
  go_loopw [12] (fun i wr => ∃ k : Nat, k ≤ l.length ∧ i = .int .i64 k ∧ TakeSt w1.heap.size w.heap.size (w.heap.size + 1) (stAt l k) wr ∧ Keep2 w1.heap.size w.heap.size (w.heap.size + 1) w1 wr) (fun i _ => l.length - (intOf i).toNat)
  case atStart => exact ⟨0, by omega, rfl, hst0, Keep2.refl _ _ _ _⟩
  case round =>
    obtain ⟨k, hk, rfl, hst, hkp⟩ := hrel
    have hln := hL.out k
    by_cases hlt : k < l.length
    · have hC := (Kd.R_reads' (Kd.R_step hRl (w1 := wr) (fun j ho hj => hkp.2 j ho.1 ho.2.1 ho.2.2))).2.2
      obtain ⟨ad, rfl, hc⟩ := Kd.at_int hC (k : Int) (by omega) (by omega)
      rw [Int.toNat_natCast] at hc
      have hrd : rd l k = l[k] := by unfold rd; simp [hlt]
      rw [hrd] at hc
      have hS' := Lib.hid (hS.out k hlt)
      go_wp2_with fail
      refine (take_any w1.heap.size w.heap.size (w.heap.size + 1) l[k] (stAt l k) wr hst hkp.1.size (by omega) (by omega)).mono ?_
      rintro e w2 ⟨rfl, hst2, hkp2⟩
      rw [← hS'.out] at hst2
      have hkp3 := hkp.trans hkp2
      go_wp2
      go_roundw
      case rel => exact ⟨k + 1, by omega, by go_num, hst2, hkp3⟩
      case measure => simp [intOf]; omega
    · obtain rfl : k = l.length := by omega
      go_wp2_with fail
      refine (take_any w1.heap.size w.heap.size (w.heap.size + 1) 32 (stAt l l.length) wr hst hkp.1.size (by omega) (by omega)).mono ?_
      rintro e w2 ⟨rfl, hst2, hkp2⟩
      obtain ⟨vo, vw, z1, z2, z3, z4⟩ := hst2
      rw [← hW.out] at z3
      obtain ⟨A3, c3, rfl⟩ := Kd.R_slice z3
      have z5 := z1.cell
      have hkp3 := (hkp.trans hkp2).below (B := w.heap.size) (by omega) (by omega) (by omega)
      go_wp2
      go_ret
      exact ⟨_, rfl, R_lowS z3 (by omega), hb1.trans hkp3⟩

def word_Words.f (a0 : ByteArray) : Option (List ByteArray) := if a0.size ≤ 1000000000 then some (wordsOf (signs a0.data.toList)) else none
theorem word_Words.calls (a0 : ByteArray) (r : List ByteArray) (w : World) (h : word_Words.f a0 = some r) :
    Calls Try.prog 11 #[.string a0] w fun e w' => ∃ v0_ : Value, e = .returned (v0_) ∧ Kd.R Kd.string 9 w' w.heap.size (fun _ => True) v0_ r ∧ Below w.heap.size w w' := by
  unfold word_Words.f at h
  split at h
  · cases h
    exact words_any a0 w (by assumption)
  · cases h
end Go.Proofs.Ytoephmnkenlmiaa
