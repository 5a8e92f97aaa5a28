import Derived.Test.YtllmhgkhamoplaaSignC
namespace Go.Proofs.Ytllmhgkhamoplaa
open Go.RowKit Go.Proofs.Ytllmhgkhamoplaa.PAll Go.Proofs.YtllmhgkhamoplaaW.PrintWords Go.Proofs.YtllmhgkhamoplaaW.PrintLast

/-- 'l = l[:m]', as the machine carries it out. -/
theorem cut_run (A : Option Addr) (n c : Nat) (l : List Int) (w : World) (h : Ints w A n c l) (m : Nat) (hm : m ≤ n) :
    ∀ W, (Instr.slice 25 (.slice A n c) none (some (.int .i64 (m : Int))) none).run Try.prog W = .ok (.slice A m c) W := by
  obtain ⟨i0, hi, hz0, hz1, hz2⟩ := info_parts infoInt
  obtain ⟨rfl, h2, _, h4⟩ := h
  have := (print_take_of (P := Try.prog) (Value.int .i64) 0 25 3 .i64 Try.underlying25 hi hz1 A c l (m : Int) (by omega) (by omega) h2).1
  rwa [Int.toNat_natCast, List.length_take, Nat.min_eq_left hm] at this

/-- The law's part behind the cut: any list of at most 50 numbers. -/
theorem signSigns_walk (s : ByteArray) (a : Option Addr) (n c : Nat) (z : List Int) (w : World) (_hs : s.size ≤ maxLen) (hz : IsRow .i64 w a n c z) :
    Calls Try.prog 4 #[.string s, .slice a n c] w fun e w' => e = .returned (.bool true) ∧ Below w.heap.size w w' := by
  have hI := Ints.of_row hz
  clear hz
  obtain ⟨n2, l2, hn2, hI2, hd⟩ : ∃ n2 l2, n2 ≤ 50 ∧ Ints w a n2 c l2 ∧ ((50 < n ∧ n2 = 50) ∨ (n ≤ 50 ∧ n2 = n)) := by
    by_cases h50 : 50 < n
    · exact ⟨50, _, by omega, hI.take 50 (by omega), .inl ⟨h50, rfl⟩⟩
    · exact ⟨n, _, by omega, hI, .inr ⟨by omega, rfl⟩⟩
  rcases hd with ⟨h50, rfl⟩ | ⟨h50, rfl⟩
  · have hcut : ∀ W, (Instr.slice 25 (.slice a n c) none (some (.int .i64 50)) none).run Try.prog W = .ok (.slice a 50 c) W := cut_run a n c _ w hI 50 (by omega)
    clear hI
    go_enter Try.func4, Try.ntmps4
    go_wp2_with fail
    refine (c_few _ _).mono ?_
    rintro e w' ⟨b, rfl, hfs, rfl⟩
    go_wp2_with fail
    refine (c_signs _ _ (by omega)).mono ?_
    rintro e w1 ⟨A1, n1, c1, rfl, hn1, hI1, hb1⟩
    go_wp2_with fail
    refine (c_rsigns _ _ (by omega)).mono ?_
    rintro e w3 ⟨A3, n3, c3, rfl, -, hI3, hb3⟩
    go_wp2_with fail
    refine (c_same _ _ _ _ _ _ _ _ _ (hI1.below hb3) hI3 (by omega)).mono ?_
    rintro e w4 ⟨rfl, hb4⟩
    have hb14 : Below w.heap.size w w4 := (hb1.trans (hb3.mono hb1.size)).trans (hb4.mono (by have := hb1.size; have := hb3.size; omega))
    rw [decide_eq_true rfl]
    go_wp2_with fail
    refine (c_text _ _ _ _ _ (hI2.below hb14) (by omega)).mono ?_
    rintro e w5 ⟨t1, rfl, ht1, hs1, hb5⟩
    have hb15 : Below w.heap.size w w5 := hb14.trans (hb5.mono hb14.size)
    go_wp2_with fail
    refine (c_rtext _ _ _ _ _ (hI2.below hb15) (by omega)).mono ?_
    rintro e w6 ⟨t2, rfl, ht2, hs2, hb6⟩
    obtain rfl : t2 = t1 := ht2.out.trans ht1.out.symm
    clear ht1 ht2
    have hb16 : Below w.heap.size w w6 := hb15.trans (hb6.mono hb15.size)
    go_wp2_with fail
    refine (lives_any _).mono ?_
    rintro e w7 ⟨rfl, hb7⟩
    go_wp2
    go_ret
    exact ⟨rfl, hb16.trans (hb7.mono hb16.size)⟩
  · clear hI
    go_enter Try.func4, Try.ntmps4
    go_wp2_with fail
    refine (c_few _ _).mono ?_
    rintro e w' ⟨b, rfl, hfs, rfl⟩
    go_wp2_with fail
    refine (c_signs _ _ (by omega)).mono ?_
    rintro e w1 ⟨A1, n1, c1, rfl, hn1, hI1, hb1⟩
    go_wp2_with fail
    refine (c_rsigns _ _ (by omega)).mono ?_
    rintro e w3 ⟨A3, n3, c3, rfl, -, hI3, hb3⟩
    go_wp2_with fail
    refine (c_same _ _ _ _ _ _ _ _ _ (hI1.below hb3) hI3 (by omega)).mono ?_
    rintro e w4 ⟨rfl, hb4⟩
    have hb14 : Below w.heap.size w w4 := (hb1.trans (hb3.mono hb1.size)).trans (hb4.mono (by have := hb1.size; have := hb3.size; omega))
    rw [decide_eq_true rfl]
    go_wp2_with fail
    refine (c_text _ _ _ _ _ (hI2.below hb14) (by omega)).mono ?_
    rintro e w5 ⟨t1, rfl, ht1, hs1, hb5⟩
    have hb15 : Below w.heap.size w w5 := hb14.trans (hb5.mono hb14.size)
    go_wp2_with fail
    refine (c_rtext _ _ _ _ _ (hI2.below hb15) (by omega)).mono ?_
    rintro e w6 ⟨t2, rfl, ht2, hs2, hb6⟩
    obtain rfl : t2 = t1 := ht2.out.trans ht1.out.symm
    clear ht1 ht2
    have hb16 : Below w.heap.size w w6 := hb15.trans (hb6.mono hb15.size)
    go_wp2_with fail
    refine (lives_any _).mono ?_
    rintro e w7 ⟨rfl, hb7⟩
    go_wp2
    go_ret
    exact ⟨rfl, hb16.trans (hb7.mono hb16.size)⟩

theorem data_text (l : List Int) : (⟨(text l).toArray⟩ : ByteArray).data.toList = text l := by simp
theorem data_append (a b : ByteArray) : (a ++ b).data.toList = a.data.toList ++ b.data.toList := by rw [ByteArray.data_append, Array.toList_append]

set_option maxHeartbeats 1000000 in
theorem signJoins_walk (a : Option Addr) (n c : Nat) (z : List Int) (a2 : Option Addr) (n2 c2 : Nat) (z2 : List Int) (w : World) (hz : IsRow .i64 w a n c z) (hz2 : IsRow .i64 w a2 n2 c2 z2) :
    Calls Try.prog 6 #[.slice a n c, .slice a2 n2 c2] w fun e w' => e = .returned (.bool true) ∧ Below w.heap.size w w' := by
  have hI := Ints.of_row hz
  have hJ := Ints.of_row hz2
  clear hz hz2
  obtain ⟨m, l, hm, hI2, hd⟩ : ∃ m l, m ≤ 30 ∧ Ints w a m c l ∧ ((30 < n ∧ m = 30) ∨ (n ≤ 30 ∧ m = n)) := by
    by_cases h : 30 < n
    · exact ⟨30, _, by omega, hI.take 30 (by omega), .inl ⟨h, rfl⟩⟩
    · exact ⟨n, _, by omega, hI, .inr ⟨by omega, rfl⟩⟩
  obtain ⟨m2, l2, hm2, hJ2, hd2⟩ : ∃ m l, m ≤ 30 ∧ Ints w a2 m c2 l ∧ ((30 < n2 ∧ m = 30) ∨ (n2 ≤ 30 ∧ m = n2)) := by
    by_cases h : 30 < n2
    · exact ⟨30, _, by omega, hJ.take 30 (by omega), .inl ⟨h, rfl⟩⟩
    · exact ⟨n2, _, by omega, hJ, .inr ⟨by omega, rfl⟩⟩
  have hlm := Lib.hid hI2.1
  have hlm2 := Lib.hid hJ2.1
  have cutA : 30 ≤ n → m = 30 → ∀ W, (Instr.slice 25 (.slice a n c) none (some (.int .i64 30)) none).run Try.prog W = .ok (.slice a m c) W := fun h e => by rw [e]; exact cut_run a n c _ w hI 30 h
  have cutB : 30 ≤ n2 → m2 = 30 → ∀ W, (Instr.slice 25 (.slice a2 n2 c2) none (some (.int .i64 30)) none).run Try.prog W = .ok (.slice a2 m2 c2) W := fun h e => by rw [e]; exact cut_run a2 n2 c2 _ w hJ 30 h
  clear hI hJ
  rcases hd with ⟨h30, hm30⟩ | ⟨h30, rfl⟩ <;> rcases hd2 with ⟨k30, km30⟩ | ⟨k30, rfl⟩
  all_goals
    first | (have hcut := cutA (by omega) hm30; clear cutA hm30) | clear cutA
    first | (have hcut2 := cutB (by omega) km30; clear cutB km30) | clear cutB
    go_enter Try.func6, Try.ntmps6
    go_wp2_with fail
    refine (c_text _ _ _ _ _ hI2 (by omega)).mono ?_
    rintro e w1 ⟨t1, rfl, ht1, hs1, hb1⟩
    go_wp2_with fail
    refine (c_text _ _ _ _ _ (hJ2.below hb1) (by omega)).mono ?_
    rintro e w2 ⟨t2, rfl, ht2, hs2, hb2⟩
    have hb12 := hb1.trans (hb2.mono hb1.size)
    clear hb1 hb2
    go_wp2_with fail
    refine (c_signs _ _ (by omega)).mono ?_
    rintro e w3 ⟨A3, n3, c3, rfl, hn3, hI3, hb3⟩
    have hb13 := hb12.trans (hb3.mono hb12.size)
    go_wp2_with (at_builtin; refine Kd.R_append_rows (Kd.int .i64) (w0 := w) w.heap.size rfl (.tmp 22) (.tmp 24) 25 3 (.int .i64 0) 8 rfl Try.underlying25 infoInt rfl (by decide) (by decide) _ [] _ A3 n3 c3 (fun _ => True) (fun _ => False) rfl rfl (Kd.R_nil _ _ _ _ _) hI3.2.2.2 (fun _ _ h => h) (fun _ h => h.elim) (fun _ _ => trivial) hb13 hb13.size (by rw [List.length_nil]; omega) ?_)
    intro v4 w4 hR4 hb14 _ _
    clear hI3 hb13 hb3
    go_wp2_with fail
    refine (c_signs _ _ (by omega)).mono ?_
    rintro e w5 ⟨A5, n5, c5, rfl, hn5, hI5, hb5⟩
    have hb15 := hb14.trans (hb5.mono hb14.size)
    have hR5 := Kd.R_below hR4 hb5
    have hl5 : (signs t1.data.toList).length ≤ 120 := by have := signs_length t1.data.toList; rw [size_data] at this; omega
    clear hR4 hb14 hb5
    go_wp2_with (at_builtin; refine Kd.R_append_rows (Kd.int .i64) (w0 := w) w.heap.size rfl (.tmp 26) (.tmp 28) 25 3 (.int .i64 0) 8 rfl Try.underlying25 infoInt rfl (by decide) (by decide) _ _ _ A5 n5 c5 (fun _ => True) (fun _ => False) rfl rfl hR5 hI5.2.2.2 (fun _ _ h => h) (fun _ h => h.elim) (fun _ _ => trivial) hb15 hb15.size (by omega) ?_)
    intro v6 w6 hR6 hb16 _ _
    clear hR5 hI5 hb15
    obtain ⟨A6, c6, rfl, hI6⟩ := Ints.of_R hR6
    obtain ⟨n6, hn6⟩ : ∃ n6, (signs t1.data.toList ++ signs t2.data.toList).length = n6 := ⟨_, rfl⟩
    rw [hn6] at hI6 ⊢
    have h6 : n6 = m + m2 := by
      rw [← hn6, ht1.out, ht2.out, data_text, data_text, signs_text, signs_text, List.length_append, List.length_map, List.length_map, hlm.out, hlm2.out]
    have hq : ((n6 : Int) == (m : Int) + (m2 : Int)) = true := by rw [h6]; simp
    have hsz : (t1 ++ t2).size ≤ 240 := by rw [ByteArray.size_append]; omega
    have hsa := Lib.hid (show signs (t1 ++ t2).data.toList = signs t1.data.toList ++ signs t2.data.toList by
      rw [data_append, ht1.out, data_text, signs_text_append, signs_text])
    clear hn6 h6
    go_wp2_with fail
    refine (c_signs _ _ (by omega)).mono ?_
    rintro e w7 ⟨A7, n7, c7, rfl, hn7, hI7, hb7⟩
    rw [hsa.out] at hI7
    have hb17 := hb16.trans (hb7.mono hb16.size)
    go_wp2_with fail
    refine (c_same _ _ _ _ _ _ _ _ _ hI7 (hI6.below hb7) (by omega)).mono ?_
    rintro e w8 ⟨rfl, hb8⟩
    have hb18 := hb17.trans (hb8.mono hb17.size)
    rw [decide_eq_true rfl]
    go_wp2_with fail
    refine (lives_any _).mono ?_
    rintro e w9 ⟨rfl, hb9⟩
    go_wp2
    go_ret
    exact ⟨rfl, hb18.trans (hb9.mono hb18.size)⟩
end Go.Proofs.Ytllmhgkhamoplaa
