import Derived.Test.YtllmhgkhamoplaaSignLaws
namespace Go.Proofs.Ytllmhgkhamoplaa
open Go.RowKit Go.Proofs.Ytllmhgkhamoplaa.PAll Go.Proofs.YtllmhgkhamoplaaW.PrintWords Go.Proofs.YtllmhgkhamoplaaW.PrintLast

/-- How many bytes, how many signs, are below 128. -/
def lowB (l : List UInt8) : Nat := (l.filter fun c => decide (c.toNat < 128)).length
def lowS (l : List Int) : Nat := (l.filter fun c => decide (c < 128)).length
theorem lowB_append (a b : List UInt8) : lowB (a ++ b) = lowB a + lowB b := by unfold lowB; rw [List.filter_append, List.length_append]
theorem lowS_append (a b : List Int) : lowS (a ++ b) = lowS a + lowS b := by unfold lowS; rw [List.filter_append, List.length_append]
theorem lowB_one (c : UInt8) : lowB [c] = if (c.toNat : Int) < 128 then 1 else 0 := by
  unfold lowB
  by_cases h : c.toNat < 128
  · rw [if_pos (by omega)]; simp [h]
  · rw [if_neg (by omega)]; simp [h]
theorem lowS_one (c : Int) : lowS [c] = if c < 128 then 1 else 0 := by
  unfold lowS
  by_cases h : c < 128 <;> simp [h]
theorem lowB_le (l : List UInt8) : lowB l ≤ l.length := List.length_filter_le _ _
theorem lowS_le (l : List Int) : lowS l ≤ l.length := List.length_filter_le _ _
theorem lowB_nums (l : List UInt8) : lowB l = lowS (numsOf l) := by
  induction l with
  | nil => rfl
  | cons c l ih =>
    have e1 : lowB (c :: l) = lowB [c] + lowB l := lowB_append [c] l
    have e2 : lowS (numsOf (c :: l)) = lowS [(c.toNat : Int)] + lowS (numsOf l) := lowS_append [(c.toNat : Int)] (numsOf l)
    rw [e1, e2, lowB_one, lowS_one, ih]
theorem low_encode (c : Int) : lowB (Lib.encodeRune c) = lowS [good c] := by
  rw [lowB_nums, nums_encode, lowS_one]
  by_cases h1 : 0 ≤ c ∧ c ≤ 127
  · rw [Lib.encodeRuneZ_one h1.1 h1.2, good_of_ok (by unfold okChar; omega), lowS_one]
  · by_cases h2 : 128 ≤ c ∧ c ≤ 2047
    · rw [Lib.encodeRuneZ_two h2.1 h2.2, good_of_ok (by unfold okChar; omega), if_neg (by omega)]
      unfold lowS
      rw [List.filter_cons_of_neg (by simp; omega), List.filter_cons_of_neg (by simp; omega)]; rfl
    · by_cases h3 : (2048 ≤ c ∧ c < 55296) ∨ (57343 < c ∧ c ≤ 65535)
      · rw [Lib.encodeRuneZ_three h3, good_of_ok (by unfold okChar; omega), if_neg (by omega)]
        unfold lowS
        rw [List.filter_cons_of_neg (by simp; omega), List.filter_cons_of_neg (by simp; omega), List.filter_cons_of_neg (by simp; omega)]; rfl
      · by_cases h4 : 65536 ≤ c ∧ c ≤ 1114111
        · rw [Lib.encodeRuneZ_four h4.1 h4.2, good_of_ok (by unfold okChar; omega), if_neg (by omega)]
          unfold lowS
          rw [List.filter_cons_of_neg (by simp; omega), List.filter_cons_of_neg (by simp; omega), List.filter_cons_of_neg (by simp; omega), List.filter_cons_of_neg (by simp; omega)]; rfl
        · rw [Lib.encodeRuneZ_bad (by omega), show good c = 65533 from if_neg (by unfold okChar; omega)]; rfl
theorem low_text : ∀ l : List Int, lowB (text l) = lowS (l.map good)
  | [] => rfl
  | c :: l => by
    have e : lowS (good c :: l.map good) = lowS [good c] + lowS (l.map good) := lowS_append [good c] _
    rw [text_cons, lowB_append, low_encode, List.map_cons, e, low_text l]

theorem take_snoc (s : ByteArray) (k : Nat) (h : k < s.size) : s.data.toList.take (k + 1) = s.data.toList.take k ++ [s[k]] := by
  rw [List.take_succ_eq_append_getElem (by simpa using h)]; rfl

set_option maxHeartbeats 1000000 in
set_option maxRecDepth 100000 in
theorem signTexts_walk (a : Option Addr) (n c : Nat) (z : List Int) (w : World) (hz : IsRow .i64 w a n c z) :
    Calls Try.prog 7 #[.slice a n c] w fun e w' => e = .returned (.bool true) ∧ Below w.heap.size w w' := by
  have hI := Ints.of_row hz
  clear hz
  obtain ⟨m, l, hm, hI2, hd⟩ : ∃ m l, m ≤ 40 ∧ Ints w a m c l ∧ ((40 < n ∧ m = 40) ∨ (n ≤ 40 ∧ m = n)) := by
    by_cases h : 40 < n
    · exact ⟨40, _, by omega, hI.take 40 (by omega), .inl ⟨h, rfl⟩⟩
    · exact ⟨n, _, by omega, hI, .inr ⟨by omega, rfl⟩⟩
  have hlm := Lib.hid hI2.1
  have cutA : 40 ≤ n → m = 40 → ∀ W, (Instr.slice 25 (.slice a n c) none (some (.int .i64 40)) none).run Try.prog W = .ok (.slice a m c) W := fun h e => by rw [e]; exact cut_run a n c _ w hI 40 h
  clear hI
  rcases hd with ⟨h40, hm40⟩ | ⟨h40, rfl⟩
  all_goals
    first | (have hcut := cutA (by omega) hm40; clear cutA hm40) | clear cutA
    go_enter Try.func7, Try.ntmps7
    go_wp2_with fail
    refine (c_rtext _ _ _ _ _ hI2 (by omega)).mono ?_
    rintro e w1 ⟨t, rfl, ht, hs, hb1⟩
    go_wp2_with fail
    go_loop [4, 5] (fun q i => ∃ k : Nat, k ≤ t.size ∧ i = .int .i64 k ∧ q = .int .i64 (lowB (t.data.toList.take k))) (fun _ i => t.size - (intOf i).toNat)
    case atStart => exact ⟨0, Nat.zero_le _, rfl, rfl⟩
    case round =>
      obtain ⟨k, hk, rfl, rfl⟩ := hrel
      have hd := lowB_le (t.data.toList.take k)
      have hl : (t.data.toList.take k).length ≤ k := List.length_take_le _ _
      by_cases hlt : k < t.size
      · have HS := Lib.hid (show lowB (t.data.toList.take (k + 1)) = lowB (t.data.toList.take k) + if (t[k].toNat : Int) < 128 then 1 else 0 by rw [take_snoc t k hlt, lowB_append, lowB_one])
        go_wp2
        all_goals
          go_round
          case rel => exact ⟨k + 1, by omega, by go_num, by rw [HS.out]; first | rw [if_pos (by assumption)]; go_num | (rw [if_neg (by omega)]; go_num)⟩
          case measure => simp [intOf]; omega
      · go_wp2_with fail
        obtain rfl : k = t.size := by omega
        refine (c_signs _ _ (by omega)).mono ?_
        rintro e w2 ⟨A2, n2, c2, rfl, hn2, hI3, hb2⟩
        have hb12 := hb1.trans (hb2.mono hb1.size)
        have hl2 := hI3.1
        have HL := Lib.hid hl2
        clear hl2
        go_wp2_with fail
        go_loop [6, 8] (fun q i => ∃ k : Nat, k ≤ n2 ∧ i = .int .i64 k ∧ q = .int .i64 (lowS ((signs t.data.toList).take k))) (fun _ i => n2 - (intOf i).toNat)
        case atStart => exact ⟨0, Nat.zero_le _, rfl, rfl⟩
        case round =>
          obtain ⟨k, hk, rfl, rfl⟩ := hrel
          have hd := lowS_le ((signs t.data.toList).take k)
          have hl : ((signs t.data.toList).take k).length ≤ k := List.length_take_le _ _
          by_cases hlt : k < n2
          · obtain ⟨ad, rfl, hc⟩ := Kd.at_int hI3.2.2.2 (k : Int) (by omega) (by omega)
            rw [Int.toNat_natCast] at hc
            have HS := Lib.hid (show lowS ((signs t.data.toList).take (k + 1)) = lowS ((signs t.data.toList).take k) + if rd (signs t.data.toList) k < 128 then 1 else 0 by
              have h1 : k < (signs t.data.toList).length := by rw [HL.out]; exact hlt
              have h2 : rd (signs t.data.toList) k = (signs t.data.toList)[k] := by unfold rd; simp [h1]
              rw [List.take_succ_eq_append_getElem h1, lowS_append, lowS_one, h2])
            go_wp2
            all_goals
              go_round
              case rel => exact ⟨k + 1, by omega, by go_num, by rw [HS.out]; first | rw [if_pos (by assumption)]; go_num | (rw [if_neg (by omega)]; go_num)⟩
              case measure => simp [intOf]; omega
          · obtain rfl : k = n2 := by omega
            have e1 : t.data.toList = text l := by rw [ht.out, data_text]
            have hq : lowS ((signs t.data.toList).take k) = lowB (t.data.toList.take t.size) := by
              rw [← HL.out, List.take_length, ← size_data, List.take_length, e1, signs_text, low_text]
            have hkm : k = m := by rw [← HL.out, e1, signs_text, List.length_map, hlm.out]
            rw [hq]
            clear hq
            subst hkm
            have e2 := Lib.hid (show (⟨(text (signs t.data.toList)).toArray⟩ : ByteArray) = t by rw [e1, signs_text, text_good, ht.out])
            clear e1
            go_wp2_with fail
            refine (c_text _ _ _ _ _ hI3 (by omega)).mono ?_
            rintro e w3 ⟨t3, rfl, ht3, -, hb3⟩
            obtain rfl : t3 = t := ht3.out.trans e2.out
            have hb13 := hb12.trans (hb3.mono hb12.size)
            go_wp2_with fail
            refine (lives_any _).mono ?_
            rintro e w9 ⟨rfl, hb9⟩
            go_wp2
            go_ret
            exact ⟨rfl, hb13.trans (hb9.mono hb13.size)⟩
end Go.Proofs.Ytllmhgkhamoplaa
