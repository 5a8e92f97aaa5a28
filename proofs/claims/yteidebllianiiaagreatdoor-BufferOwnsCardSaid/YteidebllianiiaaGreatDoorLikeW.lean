/- like, told. Condition: entries that may be, the last number the last entry's. -/
import Derived.Test.YteidebllianiiaaGreatDoorTellsW
import Derived.Test.YteidebllianiiaaGreatDoorLikeP
set_option linter.unusedVariables false
set_option linter.unusedSimpArgs false
namespace Go.Proofs.YteidebllianiiaaGreatDoor
open Go.RowKit Go.Proofs.YteidebllianiiaaGreatDoor.PAll Go.Proofs.YteidebllianiiaaGreatDoorW.PrintWords Go.Proofs.YteidebllianiiaaGreatDoorW.PrintLast Go.Proofs.YteidebllianiiaaGreatDoorW.PrintMore

theorem infoStr9 : ∃ i0, Tryz.prog.info? 9 = some i0 ∧ i0.zero = some (.string ByteArray.empty) ∧ i0.size = 1 ∧ i0.bytes = 16 := by
  have h := info9
  obtain ⟨i0, hi, hz⟩ := Option.map_eq_some_iff.1 h
  simp only [Prod.mk.injEq] at hz
  exact ⟨i0, hi, hz.1, hz.2.1, hz.2.2⟩
def LikeR4.T : Bool × List (List Nat × List Nat) := (true, [([], []), ([0], [0]), ([], []), ([2], [2]), ([3], [3]), ([1, 4], [1, 4]), ([5, 1], [5]), ([6], [6]), ([7, 6, 6], [6, 7]), ([6], [6]), ([9, 6], [6, 9]), ([10, 8, 6], [6, 10]), ([8, 11, 6], [6, 8, 11]), ([6, 12], [6, 12]), ([13, 11], [13]), ([14], [14]), ([15, 14, 14], [14, 15]), ([14], [14]), ([16, 17, 14], [14, 16, 17]), ([14, 18], [14, 18]), ([19, 16], [19]), ([20], [20]), ([21, 20, 20], [20, 21]), ([20], [20]), ([23, 20], [20, 23]), ([22, 24, 22, 20], [20, 22, 24]), ([25, 20], [20, 25]), ([20, 26], [20, 26])])
def LikeR4.B : List Nat := [0, 1, 0, 4, 12, 31, 63, 127, 255, 127, 639, 2047, 4095, 8191, 16383, 32767, 65535, 32767, 262143, 524287, 1048575, 2097151, 4194303, 2097151, 10485759, 33554431, 67108863, 134217727]
theorem LikeR4.tab : rtab .any (opsOf Tryz.f21 4) = LikeR4.T := by kernel_rfl
theorem LikeR4.bits : waitsOk LikeR4.T.2 LikeR4.B = true := by kernel_rfl
def LikeR13.T : Bool × List (List Nat × List Nat) := (true, [([], []), ([], []), ([], []), ([1, 2], [1, 2]), ([3], [3]), ([0, 4], [0, 4]), ([], []), ([6], [6]), ([], []), ([], []), ([8, 9], [8, 9]), ([10], [10]), ([7, 11, 5], [7, 11]), ([5, 12, 12], [5, 12]), ([13], [13])])
def LikeR13.B : List Nat := [0, 0, 0, 6, 14, 31, 0, 64, 0, 0, 768, 1792, 4095, 8191, 16383]
theorem LikeR13.tab : rtab .any (opsOf Tryz.f21 13) = LikeR13.T := by kernel_rfl
theorem LikeR13.bits : waitsOk LikeR13.T.2 LikeR13.B = true := by kernel_rfl
set_option maxHeartbeats 2000000 in
set_option maxRecDepth 100000 in
theorem like_any {K : Nat → Prop} {b : Nat} {L : List Ent} {last : Int} {w : World} (hB : Buf K b L last w) (hf : ∀ e ∈ L, Fit9 e) (hla : ∀ (h : 0 < L.length), last = (L[L.length - 1]'(by omega)).f1) (A : Option Addr) (c : Nat) (rl : Int) (s : ByteArray) (hs : s.size ≤ 1000000) (hC : Kd.C k33 w A L.length L) (hc : L.length ≤ c) (hL : L.length ≤ 1000) :
    Calls Tryz.prog 21 #[.pointer (some ⟨b, 0, none⟩), .agg #[.slice A L.length c, .int .i64 rl], .string s] w fun e w' => e = .returned (.bool true) ∧ Below w.heap.size w w' := by
  obtain ⟨kw, hkw⟩ := words9_ev L hL hf
  obtain ⟨ks, hks⟩ := same9_ev L (by omega) (fun e he => by have := (hf e he).short.1; omega)
  obtain ⟨kk, hkk⟩ := keys9_ev L hL hf
  have hkl : (keys9 L).length ≤ 500000 := by
    have h := keys9_len hf L.length (Nat.le_refl _)
    rw [List.take_length] at h
    omega
  obtain ⟨k2, hk2⟩ := same_ev (keys9 L) (keys9 L) rfl (by omega)
  have HKW := Lib.hid (hkw kw (Nat.le_refl _))
  have HKS := Lib.hid (hks ks (Nat.le_refl _))
  have HKK := Lib.hid (hkk kk (Nat.le_refl _))
  have HK2 := Lib.hid (hk2 k2 (Nat.le_refl _))
  have HF := Lib.hid hf
  have HB := Lib.hid hB
  have HC := Lib.hid hC
  have HLA := Lib.hid hla
  have HKL := Lib.hid hkl
  clear hkw hks hkk hk2 hB hC hla hkl
  go_enter Tryz.func21, Tryz.ntmps21
  go_upto_region 2 with fail
  obtain ⟨w1, hw1⟩ : ∃ x, x = w.alloc (.cells #[.slice A L.length c, .int .i64 rl] 53) := ⟨_, rfl⟩
  rw [← hw1]
  have hb1 : Below w.heap.size w w1 := by rw [hw1]; exact below_alloc (Below.refl _ _) _ (Nat.le_refl _)
  have hbk : w1.heap[w.heap.size]? = some (.cells #[.slice A L.length c, .int .i64 rl] 53 (0, 0)) := by rw [hw1]; exact heap_alloc_new w _
  have HB1 := Lib.hid hb1
  have HBK := Lib.hid hbk
  have c0 : w1.cell? ⟨w.heap.size, 0, none⟩ = some (.slice A L.length c) := (blk_cell hbk 0).trans rfl
  clear hw1 hb1 hbk
  obtain ⟨lv, hlv⟩ : ∃ lv, lv = lastB L last := ⟨_, rfl⟩
  have HLV := Lib.hid hlv
  clear hlv
  go_upto_if 13 with fail
  go_cut [7] (fun v7 wx => v7 = .int .i64 lv ∧ wx = w1)
  case first =>
    by_cases h0 : 0 < L.length
    · have hd : decide ((0 : Int) < (L.length : Int)) = true := decide_eq_true (by omega)
      obtain ⟨m, hm⟩ : ∃ m, L.length = m + 1 := ⟨L.length - 1, by omega⟩
      have hml : m < L.length := by omega
      obtain ⟨ad, A1, c1, rfl, k0, k1, k2, _⟩ := at_T33 HC.out (m : Int) (by omega) (by omega)
      rw [Int.toNat_natCast, rdE_nat L m hml] at k0 k1 k2
      have hw : wrap64 ((L.length : Int) - 1) = (m : Int) := by rw [wrap_small _ (by omega)]; omega
      have hwi : IntKind.i64.wrap ((L.length : Int) - 1) = (m : Int) := by rw [i64_w]; exact hw
      have hme : (L.length : Int) - 1 = (m : Int) := by omega
      have y2 := cell_stay2 HB1.out k2
      have g0 : decide ((0 : Int) ≤ (m : Int)) = true := decide_eq_true (by omega)
      have g1 : decide ((m : Int) < (L.length : Int)) = true := decide_eq_true (by omega)
      have hv : lv = L[m].f1 := by
        rw [HLV.out]
        unfold lastB
        rw [if_neg (fun e => by rw [e] at h0; simp at h0), HLA.out h0]
        congr 1
        exact getElem_congr rfl (by omega) _
      have HV := Lib.hid hv
      clear hv k0 k1 k2 hm
      go_wp2_with fail
      go_meet
      exact ⟨by rw [HV.out], rfl⟩
    · have hd : decide ((0 : Int) < (L.length : Int)) = false := decide_eq_false (by omega)
      have hv : lv = -1 := by
        rw [HLV.out]
        unfold lastB
        rw [if_pos (List.eq_nil_of_length_eq_zero (by omega))]
      have HV := Lib.hid hv
      clear hv
      go_wp2_with fail
      go_meet
      exact ⟨by rw [HV.out], rfl⟩
  case rest =>
    obtain ⟨rfl, rfl⟩ := hcut
    rename World => w1
    go_upto_region 4 with fail
    obtain ⟨WD, hWD⟩ : ∃ x, x = w1.drew := ⟨_, rfl⟩
    have hbD : Below w.heap.size w WD := by rw [hWD]; exact below_drew1 HB1.out
    have BD := Lib.hid (HB.out.below hbD)
    have CD := Lib.hid (Kd.C_below HC.out hbD)
    have d0 : WD.cell? ⟨w.heap.size, 0, none⟩ = some (.slice A L.length c) := by rw [hWD]; exact c0
    have HBD := Lib.hid hbD
    have HWD := Lib.hid hWD
    have e0 : (lv != lastB L last) = false := by rw [HLV.out]; simp
    have e1 : (lastB L last != lv) = false := by rw [HLV.out]; simp
    have e2 : decide (lastB L last = lv) = true := decide_eq_true HLV.out.symm
    have e3 : decide (lv = lastB L last) = true := decide_eq_true HLV.out
    clear c0 hbD hWD HBK HB1 HB
    refine start_ (n := 28) (S := fun w' => (w'.cell? ⟨w.heap.size, 0, none⟩ = some (.slice A L.length c))) (ds := []) #[false, false, false, false, false, false, false, false, false, false, false, false, false, false, false, false, false, false, false, false, false, false, false, false, false, false, false, false] (by kernel_rfl) rfl rfl (by rw [← HWD.out]; exact d0) (fun hHeld => ?_); refine with_tabW LikeR4.tab LikeR4.bits (fun HT_ HW_ => ?_)
    refine pure_ (i := 0) (N := some 23) (v := ?_) (a' := ?_) #[true, false, false, false, false, false, false, false, false, false, false, false, false, false, false, false, false, false, false, false, false, false, false, false, false, false, false, false] rfl rfl (any_of HT_.out (by kernel_rfl)) (fun _ _ _ h => h) (Or.inl ⟨by rfl, ?_⟩) ?_ ?_
    rotate_left
    · intro w'
      go_simp
      with_reducible rfl
    rotate_left
    · simp only [Act.put, List.setIfInBounds_toArray, List.set_cons_zero, List.set_cons_succ, i64_w, i32_w]
      rfl
    refine pure_ (i := 2) (N := some 25) (v := ?_) (a' := ?_) #[true, false, true, false, false, false, false, false, false, false, false, false, false, false, false, false, false, false, false, false, false, false, false, false, false, false, false, false] rfl rfl (any_of HT_.out (by kernel_rfl)) (fun _ _ _ h => h) (Or.inl ⟨by rfl, ?_⟩) ?_ ?_
    rotate_left
    · intro w'
      go_simp
      with_reducible rfl
    rotate_left
    · simp only [Act.put, List.setIfInBounds_toArray, List.set_cons_zero, List.set_cons_succ, i64_w, i32_w]
      rfl
    refine take_ (i := 3) (N := some 26) (v := ?_) (a' := ?_) #[true, false, true, true, false, false, false, false, false, false, false, false, false, false, false, false, false, false, false, false, false, false, false, false, false, false, false, false] rfl rfl (take_ofW HT_.out HW_.out (by kernel_rfl)) (fun _ _ _ h => h) (Or.inl ⟨by rfl, ?_⟩) hHeld ?_ ?_
    rotate_left
    · rintro w' s0
      go_simp
      with_reducible rfl
    rotate_left
    · simp only [Act.put, List.setIfInBounds_toArray, List.set_cons_zero, List.set_cons_succ, i64_w, i32_w]
      rfl
    refine pure_ (i := 4) (N := some 27) (v := ?_) (a' := ?_) #[true, false, true, true, true, false, false, false, false, false, false, false, false, false, false, false, false, false, false, false, false, false, false, false, false, false, false, false] rfl rfl (any_of HT_.out (by kernel_rfl)) (fun _ _ _ h => h) (Or.inl ⟨by rfl, ?_⟩) ?_ ?_
    rotate_left
    · intro w'
      go_simp
      with_reducible rfl
    rotate_left
    · simp only [Act.put, List.setIfInBounds_toArray, List.set_cons_zero, List.set_cons_succ, i64_w, i32_w]
      rfl
    refine one_ (i := 1) (N := some 24) #[true, true, true, true, true, false, false, false, false, false, false, false, false, false, false, false, false, false, false, false, false, false, false, false, false, false, false, false] rfl rfl (one_of HT_.out (by kernel_rfl)) (by decide) (fun KK hKK => ?_)
    rw [← HWD.out] at hHeld ⊢
    refine goes_ Tryz.func17 (by kernel_rfl) rfl #[.pointer (some ⟨b, 0, none⟩)] (by rfl) rfl rfl (by (try simp only [List.map_toArray, List.map_cons, List.map_nil]); first | done | rfl) ?_
    with_reducible refine (blen_any BD.out).mono ?_
    rintro e w5 ⟨rfl, hw5⟩
    rw [hw5]
    clear hw5 w5
    refine ⟨_, rfl, ?_⟩
    refine hKK.out _ _ hHeld (fun hHeld => ?_)
    clear hKK KK
    refine norm_ (a' := ?_) ?_ ?_
    rotate_left
    · show Act.put _ (some 24) _ = _
      simp only [Act.put, List.setIfInBounds_toArray, List.set_cons_zero, List.set_cons_succ, i64_w, i32_w]
      rfl
    refine pure_ (i := 5) (N := some 28) (v := ?_) (a' := ?_) #[true, true, true, true, true, true, false, false, false, false, false, false, false, false, false, false, false, false, false, false, false, false, false, false, false, false, false, false] rfl rfl (any_of HT_.out (by kernel_rfl)) (fun _ _ _ h => h) (Or.inl ⟨by rfl, ?_⟩) ?_ ?_
    rotate_left
    · intro w'
      go_simp
      with_reducible rfl
    rotate_left
    · simp only [Act.put, List.setIfInBounds_toArray, List.set_cons_zero, List.set_cons_succ, i64_w, i32_w]
      rfl
    refine pure_ (i := 6) (N := some 29) (v := ?_) (a' := ?_) #[true, true, true, true, true, true, true, false, false, false, false, false, false, false, false, false, false, false, false, false, false, false, false, false, false, false, false, false] rfl rfl (any_of HT_.out (by kernel_rfl)) (fun _ _ _ h => h) (Or.inl ⟨by rfl, ?_⟩) ?_ ?_
    rotate_left
    · intro w'
      go_simp
      with_reducible rfl
    rotate_left
    · simp only [Act.put, List.setIfInBounds_toArray, List.set_cons_zero, List.set_cons_succ, i64_w, i32_w]
      rfl
    refine pure_ (i := 7) (N := some 30) (v := ?_) (a' := ?_) #[true, true, true, true, true, true, true, true, false, false, false, false, false, false, false, false, false, false, false, false, false, false, false, false, false, false, false, false] rfl rfl (any_of HT_.out (by kernel_rfl)) (fun _ _ _ h => h) (Or.inl ⟨by rfl, ?_⟩) ?_ ?_
    rotate_left
    · intro w'
      go_simp
      with_reducible rfl
    rotate_left
    · simp only [Act.put, List.setIfInBounds_toArray, List.set_cons_zero, List.set_cons_succ, i64_w, i32_w]
      rfl
    refine pure_ (i := 9) (N := some 32) (v := ?_) (a' := ?_) #[true, true, true, true, true, true, true, true, false, true, false, false, false, false, false, false, false, false, false, false, false, false, false, false, false, false, false, false] rfl rfl (any_of HT_.out (by kernel_rfl)) (fun _ _ _ h => h) (Or.inl ⟨by rfl, ?_⟩) ?_ ?_
    rotate_left
    · intro w'
      go_simp
      with_reducible rfl
    rotate_left
    · simp only [Act.put, List.setIfInBounds_toArray, List.set_cons_zero, List.set_cons_succ, i64_w, i32_w]
      rfl
    refine take_ (i := 10) (N := some 33) (v := ?_) (a' := ?_) #[true, true, true, true, true, true, true, true, false, true, true, false, false, false, false, false, false, false, false, false, false, false, false, false, false, false, false, false] rfl rfl (take_ofW HT_.out HW_.out (by kernel_rfl)) (fun _ _ _ h => h) (Or.inl ⟨by rfl, ?_⟩) hHeld ?_ ?_
    rotate_left
    · rintro w' s0
      go_simp
      with_reducible rfl
    rotate_left
    · simp only [Act.put, List.setIfInBounds_toArray, List.set_cons_zero, List.set_cons_succ, i64_w, i32_w]
      rfl
    refine one_ (i := 8) (N := some 31) #[true, true, true, true, true, true, true, true, true, true, true, false, false, false, false, false, false, false, false, false, false, false, false, false, false, false, false, false] rfl rfl (one_of HT_.out (by kernel_rfl)) (by decide) (fun KK hKK => ?_)
    refine goes_ Tryz.func13 (by kernel_rfl) rfl #[.pointer (some ⟨b, 0, none⟩)] (by rfl) rfl rfl (by (try simp only [List.map_toArray, List.map_cons, List.map_nil]); first | done | rfl) ?_
    with_reducible refine (bwords_any BD.out).mono ?_
    rintro e w5 ⟨rfl, hw5⟩
    refine ⟨_, rfl, ?_⟩
    rw [hw5]
    clear hw5 w5
    refine hKK.out _ _ hHeld (fun hHeld => ?_)
    clear hKK KK
    refine norm_ (a' := ?_) ?_ ?_
    rotate_left
    · show Act.put _ (some 31) _ = _
      simp only [Act.put, List.setIfInBounds_toArray, List.set_cons_zero, List.set_cons_succ, i64_w, i32_w]
      rfl
    refine one_ (i := 11) (N := some 34) #[true, true, true, true, true, true, true, true, true, true, true, true, false, false, false, false, false, false, false, false, false, false, false, false, false, false, false, false] rfl rfl (one_of HT_.out (by kernel_rfl)) (by decide) (fun KK hKK => ?_)
    refine goes_ Tryz.func14 (by kernel_rfl) rfl #[.slice A L.length c] (by rfl) rfl rfl (by (try simp only [List.map_toArray, List.map_cons, List.map_nil]); first | done | rfl) ?_
    with_reducible refine (concordanceref09_Words.calls kw A c L (weigh L : Int) WD CD.out hc HKW.out).mono ?_
    rintro e w6 ⟨rfl, hb6⟩
    refine ⟨_, rfl, ?_⟩
    have x0 := cell_stay2 hb6 d0
    refine hKK.out _ _ x0 (fun hHeld => ?_)
    clear hKK KK
    refine norm_ (a' := ?_) ?_ ?_
    rotate_left
    · show Act.put _ (some 34) _ = _
      simp only [Act.put, List.setIfInBounds_toArray, List.set_cons_zero, List.set_cons_succ, i64_w, i32_w]
      rfl
    refine pure_ (i := 12) (N := some 35) (v := ?_) (a' := ?_) #[true, true, true, true, true, true, true, true, true, true, true, true, true, false, false, false, false, false, false, false, false, false, false, false, false, false, false, false] rfl rfl (any_of HT_.out (by kernel_rfl)) (fun _ _ _ h => h) (Or.inl ⟨by rfl, ?_⟩) ?_ ?_
    rotate_left
    · intro w'
      go_simp
      with_reducible rfl
    rotate_left
    · simp only [Act.put, List.setIfInBounds_toArray, List.set_cons_zero, List.set_cons_succ, i64_w, i32_w]
      rfl
    refine pure_ (i := 13) (N := some 36) (v := ?_) (a' := ?_) #[true, true, true, true, true, true, true, true, true, true, true, true, true, true, false, false, false, false, false, false, false, false, false, false, false, false, false, false] rfl rfl (any_of HT_.out (by kernel_rfl)) (fun _ _ _ h => h) (Or.inl ⟨by rfl, ?_⟩) ?_ ?_
    rotate_left
    · intro w'
      go_simp
      with_reducible rfl
    rotate_left
    · simp only [Act.put, List.setIfInBounds_toArray, List.set_cons_zero, List.set_cons_succ, i64_w, i32_w]
      rfl
    refine pure_ (i := 14) (N := some 37) (v := ?_) (a' := ?_) #[true, true, true, true, true, true, true, true, true, true, true, true, true, true, true, false, false, false, false, false, false, false, false, false, false, false, false, false] rfl rfl (any_of HT_.out (by kernel_rfl)) (fun _ _ _ h => h) (Or.inl ⟨by rfl, ?_⟩) ?_ ?_
    rotate_left
    · intro w'
      go_simp
      with_reducible rfl
    rotate_left
    · simp only [Act.put, List.setIfInBounds_toArray, List.set_cons_zero, List.set_cons_succ, i64_w, i32_w]
      rfl
    refine pure_ (i := 15) (N := some 38) (v := ?_) (a' := ?_) #[true, true, true, true, true, true, true, true, true, true, true, true, true, true, true, true, false, false, false, false, false, false, false, false, false, false, false, false] rfl rfl (any_of HT_.out (by kernel_rfl)) (fun _ _ _ h => h) (Or.inl ⟨by rfl, ?_⟩) ?_ ?_
    rotate_left
    · intro w'
      go_simp
      with_reducible rfl
    rotate_left
    · simp only [Act.put, List.setIfInBounds_toArray, List.set_cons_zero, List.set_cons_succ, i64_w, i32_w]
      rfl
    refine pure_ (i := 17) (N := some 40) (v := ?_) (a' := ?_) #[true, true, true, true, true, true, true, true, true, true, true, true, true, true, true, true, false, true, false, false, false, false, false, false, false, false, false, false] rfl rfl (any_of HT_.out (by kernel_rfl)) (fun _ _ _ h => h) (Or.inl ⟨by rfl, ?_⟩) ?_ ?_
    rotate_left
    · intro w'
      go_simp
      with_reducible rfl
    rotate_left
    · simp only [Act.put, List.setIfInBounds_toArray, List.set_cons_zero, List.set_cons_succ, i64_w, i32_w]
      rfl
    refine one_ (i := 16) (N := some 39) #[true, true, true, true, true, true, true, true, true, true, true, true, true, true, true, true, true, true, false, false, false, false, false, false, false, false, false, false] rfl rfl (one_of HT_.out (by kernel_rfl)) (by decide) (fun KK hKK => ?_)
    refine goes_ Tryz.func18 (by kernel_rfl) rfl #[.pointer (some ⟨b, 0, none⟩)] (by rfl) rfl rfl (by (try simp only [List.map_toArray, List.map_cons, List.map_nil]); first | done | rfl) ?_
    with_reducible refine (blast_any (BD.out.below hb6)).mono ?_
    rintro e w7 ⟨rfl, hw7⟩
    refine ⟨_, rfl, ?_⟩
    rw [hw7]
    clear hw7 w7
    refine hKK.out _ _ x0 (fun hHeld => ?_)
    clear hKK KK
    refine norm_ (a' := ?_) ?_ ?_
    rotate_left
    · show Act.put _ (some 39) _ = _
      simp only [Act.put, List.setIfInBounds_toArray, List.set_cons_zero, List.set_cons_succ, i64_w, i32_w]
      rfl
    refine pure_ (i := 18) (N := some 41) (v := ?_) (a' := ?_) #[true, true, true, true, true, true, true, true, true, true, true, true, true, true, true, true, true, true, true, false, false, false, false, false, false, false, false, false] rfl rfl (any_of HT_.out (by kernel_rfl)) (fun _ _ _ h => h) (Or.inl ⟨by rfl, ?_⟩) ?_ ?_
    rotate_left
    · intro w'
      go_simp
      with_reducible rfl
    rotate_left
    · simp only [Act.put, List.setIfInBounds_toArray, List.set_cons_zero, List.set_cons_succ, i64_w, i32_w]
      rfl
    refine pure_ (i := 19) (N := some 42) (v := ?_) (a' := ?_) #[true, true, true, true, true, true, true, true, true, true, true, true, true, true, true, true, true, true, true, true, false, false, false, false, false, false, false, false] rfl rfl (any_of HT_.out (by kernel_rfl)) (fun _ _ _ h => h) (Or.inl ⟨by rfl, ?_⟩) ?_ ?_
    rotate_left
    · intro w'
      go_simp
      with_reducible rfl
    rotate_left
    · simp only [Act.put, List.setIfInBounds_toArray, List.set_cons_zero, List.set_cons_succ, i64_w, i32_w]
      rfl
    refine pure_ (i := 20) (N := some 43) (v := ?_) (a' := ?_) #[true, true, true, true, true, true, true, true, true, true, true, true, true, true, true, true, true, true, true, true, true, false, false, false, false, false, false, false] rfl rfl (any_of HT_.out (by kernel_rfl)) (fun _ _ _ h => h) (Or.inl ⟨by rfl, ?_⟩) ?_ ?_
    rotate_left
    · intro w'
      go_simp
      with_reducible rfl
    rotate_left
    · simp only [Act.put, List.setIfInBounds_toArray, List.set_cons_zero, List.set_cons_succ, i64_w, i32_w]
      rfl
    refine pure_ (i := 21) (N := some 44) (v := ?_) (a' := ?_) #[true, true, true, true, true, true, true, true, true, true, true, true, true, true, true, true, true, true, true, true, true, true, false, false, false, false, false, false] rfl rfl (any_of HT_.out (by kernel_rfl)) (fun _ _ _ h => h) (Or.inl ⟨by rfl, ?_⟩) ?_ ?_
    rotate_left
    · intro w'
      go_simp
      with_reducible rfl
    rotate_left
    · simp only [Act.put, List.setIfInBounds_toArray, List.set_cons_zero, List.set_cons_succ, i64_w, i32_w]
      rfl
    refine pure_ (i := 23) (N := some 46) (v := ?_) (a' := ?_) #[true, true, true, true, true, true, true, true, true, true, true, true, true, true, true, true, true, true, true, true, true, true, false, true, false, false, false, false] rfl rfl (any_of HT_.out (by kernel_rfl)) (fun _ _ _ h => h) (Or.inl ⟨by rfl, ?_⟩) ?_ ?_
    rotate_left
    · intro w'
      go_simp
      with_reducible rfl
    rotate_left
    · simp only [Act.put, List.setIfInBounds_toArray, List.set_cons_zero, List.set_cons_succ, i64_w, i32_w]
      rfl
    refine take_ (i := 24) (N := some 47) (v := ?_) (a' := ?_) #[true, true, true, true, true, true, true, true, true, true, true, true, true, true, true, true, true, true, true, true, true, true, false, true, true, false, false, false] rfl rfl (take_ofW HT_.out HW_.out (by kernel_rfl)) (fun _ _ _ h => h) (Or.inl ⟨by rfl, ?_⟩) hHeld ?_ ?_
    rotate_left
    · rintro w' s0
      go_simp
      with_reducible rfl
    rotate_left
    · simp only [Act.put, List.setIfInBounds_toArray, List.set_cons_zero, List.set_cons_succ, i64_w, i32_w]
      rfl
    refine one_ (i := 22) (N := some 45) #[true, true, true, true, true, true, true, true, true, true, true, true, true, true, true, true, true, true, true, true, true, true, true, true, true, false, false, false] rfl rfl (one_of HT_.out (by kernel_rfl)) (by decide) (fun KK hKK => ?_)
    refine goes_ Tryz.func20 (by kernel_rfl) rfl #[.pointer (some ⟨b, 0, none⟩)] (by rfl) rfl rfl (by (try simp only [List.map_toArray, List.map_cons, List.map_nil]); first | done | rfl) ?_
    with_reducible refine (bentries_any (BD.out.below hb6)).mono ?_
    rintro e w8 ⟨ev, rfl, hev, hb8⟩
    refine ⟨_, rfl, ?_⟩
    obtain ⟨Ae, ce, rfl⟩ := Kd.R_slice hev
    have x1 := cell_stay2 hb8 x0
    refine hKK.out _ _ x1 (fun hHeld => ?_)
    clear hKK KK
    refine norm_ (a' := ?_) ?_ ?_
    rotate_left
    · show Act.put _ (some 45) _ = _
      simp only [Act.put, List.setIfInBounds_toArray, List.set_cons_zero, List.set_cons_succ, i64_w, i32_w]
      rfl
    refine one_ (i := 25) (N := some 48) #[true, true, true, true, true, true, true, true, true, true, true, true, true, true, true, true, true, true, true, true, true, true, true, true, true, true, false, false] rfl rfl (one_of HT_.out (by kernel_rfl)) (by decide) (fun KK hKK => ?_)
    refine goes_ Tryz.func19 (by kernel_rfl) rfl #[.slice Ae L.length ce, .slice A L.length c] (by rfl) rfl rfl (by (try simp only [List.map_toArray, List.map_cons, List.map_nil]); first | done | rfl) ?_
    with_reducible refine (concordanceref09_Same.calls ks Ae ce L A c L true w8 (Kd.R_reads' hev).2.2 (Kd.R_reads' hev).2.1 (Kd.C_below (Kd.C_below CD.out hb6) hb8) hc HKS.out).mono ?_
    rintro e w9 ⟨rfl, hb9⟩
    refine ⟨_, rfl, ?_⟩
    have x2 := cell_stay2 hb9 x1
    refine hKK.out _ _ x2 (fun hHeld => ?_)
    clear hKK KK
    refine norm_ (a' := ?_) ?_ ?_
    rotate_left
    · show Act.put _ (some 48) _ = _
      simp only [Act.put, List.setIfInBounds_toArray, List.set_cons_zero, List.set_cons_succ, i64_w, i32_w]
      rfl
    refine pure_ (i := 26) (N := some 49) (v := ?_) (a' := ?_) #[true, true, true, true, true, true, true, true, true, true, true, true, true, true, true, true, true, true, true, true, true, true, true, true, true, true, true, false] rfl rfl (any_of HT_.out (by kernel_rfl)) (fun _ _ _ h => h) (Or.inl ⟨by rfl, ?_⟩) ?_ ?_
    rotate_left
    · intro w'
      go_simp
      with_reducible rfl
    rotate_left
    · simp only [Act.put, List.setIfInBounds_toArray, List.set_cons_zero, List.set_cons_succ, i64_w, i32_w]
      rfl
    refine pure_ (i := 27) (N := some 50) (v := ?_) (a' := ?_) #[true, true, true, true, true, true, true, true, true, true, true, true, true, true, true, true, true, true, true, true, true, true, true, true, true, true, true, true] rfl rfl (any_of HT_.out (by kernel_rfl)) (fun _ _ _ h => h) (Or.inl ⟨by rfl, ?_⟩) ?_ ?_
    rotate_left
    · intro w'
      go_simp
      with_reducible rfl
    rotate_left
    · simp only [Act.put, List.setIfInBounds_toArray, List.set_cons_zero, List.set_cons_succ, i64_w, i32_w]
      rfl
    refine done_ (done_of HT_.out (by kernel_rfl)) ?_
    have B9 := Lib.hid (((BD.out.below hb6).below hb8).below hb9)
    have C9 := Lib.hid (Kd.C_below (Kd.C_below (Kd.C_below CD.out hb6) hb8) hb9)
    have HB9 := Lib.hid (((HBD.out.trans (hb6.mono HBD.out.size)).trans (hb8.mono (Nat.le_trans HBD.out.size hb6.size))).trans (hb9.mono (Nat.le_trans (Nat.le_trans HBD.out.size hb6.size) hb8.size)))
    clear hHeld x0 x1 hb6 hb8 hb9 hev BD CD HBD d0 HKW HKS
    go_upto_region 9 with (first
      | (go_at_call 36; refine (concordanceref09_Keys.calls kk A c L (keys9 L) w9 C9.out hc HKK.out).mono ?_; rintro e w10 ⟨rkv, rfl, hrk, hb10⟩; obtain ⟨Ar, cr, rfl⟩ := Kd.R_slice hrk)
      | (go_at_call 10; refine (bkeys_any (B9.out.below hb10)).mono ?_; rintro e w11 ⟨kv, X, rfl, hkv, hX, hb11⟩; obtain rfl := keys_eq hX; obtain ⟨Ak, ck, rfl⟩ := Kd.R_slice hkv)
      | (go_at_call 37; refine (concordanceref02_Same.calls k2 Ak ck (keys9 L) Ar cr (keys9 L) true w11 (Kd.R_reads' hkv).2.2 (Kd.R_reads' hkv).2.1 (Kd.R_reads' (Kd.R_below hrk hb11)).2.2 (Kd.R_reads' hrk).2.1 HK2.out).mono ?_; rintro e w12 ⟨rfl, hd12⟩))
    have hb12 := hd12.below
    have hrk12 := Kd.R_below (Kd.R_below hrk hb11) hb12
    obtain ⟨i0, hi1, hi2, hi3, hi4⟩ := infoStr9
    have hkl := HKL.out
    obtain ⟨v13, W13, ap, hR13, hb13⟩ := push_any Kd.string w12 w9.heap.size 34 9 i0 _ 16 Tryz.underlying34 hi1 hi2 hi3 hi4 rfl (by decide) (by decide) (x := s) #[.string s] (okp := fun _ => True) hrk12 rfl (by decide) (Nat.le_trans (Nat.le_trans hb10.size hb11.size) hb12.size) (by omega)
    have hbw : Below w9.heap.size w9 W13 := ((hb10.trans (hb11.mono hb10.size)).trans (hb12.mono (Nat.le_trans hb10.size hb11.size))).trans hb13
    have B13 := Lib.hid (B9.out.below hbw)
    have C13 := Lib.hid (Kd.C_below C9.out hbw)
    have HB13 := Lib.hid (HB9.out.trans (hbw.mono HB9.out.size))
    have x3 := cell_stay2 hbw x2
    obtain ⟨A13, c13, hv13⟩ := Kd.R_slice hR13
    rw [List.length_append, List.length_singleton] at hv13
    subst hv13
    have HAP := Lib.hid ap
    have R13 := Lib.hid hR13
    clear ap hR13 hb13 hbw hrk12 hrk hkv hX hb10 hb11 hb12 hd12 hi1 hi2 hi3 hi4 B9 C9 x2 hkl
    go_upto_region 11 with (at_builtin; refine wpList_append_run rfl _ _ 34 rfl _ _ _ rfl rfl (HAP.out _) ?_)
    have hkl := HKL.out
    have hlx : (keys9 L ++ [s]).length = (keys9 L).length + 1 := by rw [List.length_append, List.length_singleton]
    obtain ⟨X, hX⟩ : ∃ X, X = keys9 L ++ [s] := ⟨_, rfl⟩
    have hXm : ∀ x ∈ X, x.size ≤ 1000000000 := by
      rw [hX]
      intro x hx
      rcases List.mem_append.1 hx with hx | hx
      · obtain ⟨e, he, t, ht, e1⟩ := ((keys9_spec L).2 x).1 hx
        exact key_small HF.out ((posts_ne L x).2 ⟨e, he, t, ht, e1⟩)
      · rw [List.mem_singleton.1 hx]; omega
    rw [← hX] at hlx R13
    obtain ⟨n, hn⟩ : ∃ n, n = (keys9 L).length + 1 := ⟨_, rfl⟩
    rw [← hn] at hlx R13 ⊢
    have hnl : n ≤ 500001 := by omega
    have HXM := Lib.hid hXm
    clear hX hXm hn hkl HAP
    have e99 : ((keys9 L).length : Int) + 1 = ((keys9 L).length + 1 : Nat) := by push_cast; rfl
    clear e99
    go_loopw [9] (fun v9 wr => ∃ i : Nat, v9 = .int .i64 (i : Int) ∧ i ≤ n ∧ Below W13.heap.size W13 wr) (fun v9 _ => n - (intOf v9).toNat)
    case atStart => exact ⟨0, rfl, by omega, Below.refl _ _⟩
    case round =>
      obtain ⟨i, rfl, hi, hbr⟩ := hrel
      obtain ⟨W0, hW0⟩ : ∃ W, W = wr := ⟨_, rfl⟩
      rw [← hW0] at hbr ⊢
      clear hW0 wr
      by_cases hlt : i < n
      · have d1 : decide ((i : Int) < (n : Int)) = true := decide_eq_true (by omega)
        have g0 : decide ((0 : Int) ≤ (i : Int)) = true := decide_eq_true (by omega)
        obtain ⟨ak, hak, k0⟩ := Kd.at_string (Kd.R_reads' (Kd.R_below R13.out hbr)).2.2 (i : Int) (by omega) (by omega)
        subst hak
        rw [rdS_nat X i (by omega), Int.toNat_natCast] at k0
        have hxm : X[i]'(by omega) ∈ X := List.getElem_mem (by omega)
        have hxs := HXM.out _ hxm
        obtain ⟨x, hx⟩ : ∃ x, x = X[i]'(by omega) := ⟨_, rfl⟩
        rw [← hx] at k0 hxs
        clear hx hxm
        have hmp := posts_may HF.out hL x
        have hpm : ∀ p ∈ posts L x, p.f1.length ≤ 1000000000 := fun p hp => (hmp.each p hp).2.2.2.2.2
        obtain ⟨kp, hkp⟩ := posts9_ev L x hL HF.out
        obtain ⟨k5, hk5⟩ := same5_ev (posts L x) hmp.len hpm
        have HXS := Lib.hid hxs
        have HPM := Lib.hid hpm
        have HKP := Lib.hid (hkp kp (Nat.le_refl _))
        have HK5 := Lib.hid (hk5 k5 (Nat.le_refl _))
        have HLT := Lib.hid hlt
        clear hkp hk5 hmp hpm hxs hlt
        go_upto_region 13 with fail
        obtain ⟨WE, hWE⟩ : ∃ x, x = W0.drew := ⟨_, rfl⟩
        have hbE : Below W13.heap.size W13 WE := by rw [hWE]; exact below_drew1 hbr
        have y0 : WE.cell? (ak.add i) = some (.string x) := by rw [hWE]; exact k0
        have y1 := cell_stay2 hbE x3
        have BE := Lib.hid (B13.out.below hbE)
        have CE := Lib.hid (Kd.C_below C13.out hbE)
        have HBE := Lib.hid hbE
        have HWE := Lib.hid hWE
        clear hWE hbE hbr k0
        refine start_ (n := 15) (S := fun w' => (w'.cell? (ak.add i) = some (.string x)) ∧ (w'.cell? ⟨w.heap.size, 0, none⟩ = some (.slice A L.length c))) (ds := []) #[false, false, false, false, false, false, false, false, false, false, false, false, false, false, false] (by kernel_rfl) rfl rfl (by rw [← HWE.out]; exact ⟨y0, y1⟩) (fun hHeld => ?_); refine with_tabW LikeR13.tab LikeR13.bits (fun HT_ HW_ => ?_)
        refine pure_ (i := 0) (N := some 69) (v := ?_) (a' := ?_) #[true, false, false, false, false, false, false, false, false, false, false, false, false, false, false] rfl rfl (any_of HT_.out (by kernel_rfl)) (fun _ _ _ h => h) (Or.inl ⟨by rfl, ?_⟩) ?_ ?_
        rotate_left
        · intro w'
          go_simp
          with_reducible rfl
        rotate_left
        · simp only [Act.put, List.setIfInBounds_toArray, List.set_cons_zero, List.set_cons_succ, i64_w, i32_w]
          rfl
        refine pure_ (i := 1) (N := some 70) (v := ?_) (a' := ?_) #[true, true, false, false, false, false, false, false, false, false, false, false, false, false, false] rfl rfl (any_of HT_.out (by kernel_rfl)) (fun _ _ _ h => h) (Or.inl ⟨by rfl, ?_⟩) ?_ ?_
        rotate_left
        · intro w'
          go_simp
          with_reducible rfl
        rotate_left
        · simp only [Act.put, List.setIfInBounds_toArray, List.set_cons_zero, List.set_cons_succ, i64_w, i32_w]
          rfl
        refine pure_ (i := 2) (N := some 71) (v := ?_) (a' := ?_) #[true, true, true, false, false, false, false, false, false, false, false, false, false, false, false] rfl rfl (any_of HT_.out (by kernel_rfl)) (fun _ _ _ h => h) (Or.inl ⟨by rfl, ?_⟩) ?_ ?_
        rotate_left
        · intro w'
          go_simp
          with_reducible rfl
        rotate_left
        · simp only [Act.put, List.setIfInBounds_toArray, List.set_cons_zero, List.set_cons_succ, i64_w, i32_w]
          rfl
        refine pure_ (i := 3) (N := some 72) (v := ?_) (a' := ?_) #[true, true, true, true, false, false, false, false, false, false, false, false, false, false, false] rfl rfl (any_of HT_.out (by kernel_rfl)) (fun _ _ _ h => h) (Or.inl ⟨by rfl, ?_⟩) ?_ ?_
        rotate_left
        · intro w'
          go_simp
          with_reducible rfl
        rotate_left
        · simp only [Act.put, List.setIfInBounds_toArray, List.set_cons_zero, List.set_cons_succ, i64_w, i32_w]
          rfl
        refine pure_ (i := 6) (N := some 75) (v := ?_) (a' := ?_) #[true, true, true, true, false, false, true, false, false, false, false, false, false, false, false] rfl rfl (any_of HT_.out (by kernel_rfl)) (fun _ _ _ h => h) (Or.inl ⟨by rfl, ?_⟩) ?_ ?_
        rotate_left
        · intro w'
          go_simp
          with_reducible rfl
        rotate_left
        · simp only [Act.put, List.setIfInBounds_toArray, List.set_cons_zero, List.set_cons_succ, i64_w, i32_w]
          rfl
        refine pure_ (i := 8) (N := some 77) (v := ?_) (a' := ?_) #[true, true, true, true, false, false, true, false, true, false, false, false, false, false, false] rfl rfl (any_of HT_.out (by kernel_rfl)) (fun _ _ _ h => h) (Or.inl ⟨by rfl, ?_⟩) ?_ ?_
        rotate_left
        · intro w'
          go_simp
          with_reducible rfl
        rotate_left
        · simp only [Act.put, List.setIfInBounds_toArray, List.set_cons_zero, List.set_cons_succ, i64_w, i32_w]
          rfl
        refine pure_ (i := 9) (N := some 78) (v := ?_) (a' := ?_) #[true, true, true, true, false, false, true, false, true, true, false, false, false, false, false] rfl rfl (any_of HT_.out (by kernel_rfl)) (fun _ _ _ h => h) (Or.inl ⟨by rfl, ?_⟩) ?_ ?_
        rotate_left
        · intro w'
          go_simp
          with_reducible rfl
        rotate_left
        · simp only [Act.put, List.setIfInBounds_toArray, List.set_cons_zero, List.set_cons_succ, i64_w, i32_w]
          rfl
        refine pure_ (i := 10) (N := some 79) (v := ?_) (a' := ?_) #[true, true, true, true, false, false, true, false, true, true, true, false, false, false, false] rfl rfl (any_of HT_.out (by kernel_rfl)) (fun _ _ _ h => h) (Or.inl ⟨by rfl, ?_⟩) ?_ ?_
        rotate_left
        · intro w'
          go_simp
          with_reducible rfl
        rotate_left
        · simp only [Act.put, List.setIfInBounds_toArray, List.set_cons_zero, List.set_cons_succ, i64_w, i32_w]
          rfl
        refine take_ (i := 4) (N := some 73) (v := ?_) (a' := ?_) #[true, true, true, true, true, false, true, false, true, true, true, false, false, false, false] rfl rfl (take_ofW HT_.out HW_.out (by kernel_rfl)) (fun _ _ _ h => h) (Or.inl ⟨by rfl, ?_⟩) hHeld ?_ ?_
        rotate_left
        · rintro w' ⟨s0, s1⟩
          go_simp
          with_reducible rfl
        rotate_left
        · simp only [Act.put, List.setIfInBounds_toArray, List.set_cons_zero, List.set_cons_succ, i64_w, i32_w]
          rfl
        refine take_ (i := 7) (N := some 76) (v := ?_) (a' := ?_) #[true, true, true, true, true, false, true, true, true, true, true, false, false, false, false] rfl rfl (take_ofW HT_.out HW_.out (by kernel_rfl)) (fun _ _ _ h => h) (Or.inl ⟨by rfl, ?_⟩) hHeld ?_ ?_
        rotate_left
        · rintro w' ⟨s0, s1⟩
          go_simp
          with_reducible rfl
        rotate_left
        · simp only [Act.put, List.setIfInBounds_toArray, List.set_cons_zero, List.set_cons_succ, i64_w, i32_w]
          rfl
        refine take_ (i := 11) (N := some 80) (v := ?_) (a' := ?_) #[true, true, true, true, true, false, true, true, true, true, true, true, false, false, false] rfl rfl (take_ofW HT_.out HW_.out (by kernel_rfl)) (fun _ _ _ h => h) (Or.inl ⟨by rfl, ?_⟩) hHeld ?_ ?_
        rotate_left
        · rintro w' ⟨s0, s1⟩
          go_simp
          with_reducible rfl
        rotate_left
        · simp only [Act.put, List.setIfInBounds_toArray, List.set_cons_zero, List.set_cons_succ, i64_w, i32_w]
          rfl
        refine one_ (i := 5) (N := some 74) #[true, true, true, true, true, true, true, true, true, true, true, true, false, false, false] rfl rfl (one_of HT_.out (by kernel_rfl)) (by decide) (fun KK hKK => ?_)
        rw [← HWE.out] at hHeld ⊢
        refine goes_ Tryz.func11 (by kernel_rfl) rfl #[.pointer (some ⟨b, 0, none⟩), .string x] (by rfl) rfl rfl (by (try simp only [List.map_toArray, List.map_cons, List.map_nil]); first | done | rfl) ?_
        with_reducible refine (bpostings_any BE.out x HXS.out HPM.out).mono ?_
        rintro e w14 ⟨pv, rfl, hpv, hb14⟩
        refine ⟨_, rfl, ?_⟩
        obtain ⟨Ap, cp, rfl⟩ := Kd.R_slice hpv
        have z0 := cell_stay2 hb14 y0
        have z1 := cell_stay2 hb14 y1
        refine hKK.out _ _ ⟨z0, z1⟩ (fun hHeld => ?_)
        clear hKK KK
        refine norm_ (a' := ?_) ?_ ?_
        rotate_left
        · show Act.put _ (some 74) _ = _
          simp only [Act.put, List.setIfInBounds_toArray, List.set_cons_zero, List.set_cons_succ, i64_w, i32_w]
          rfl
        refine one_ (i := 12) (N := some 81) #[true, true, true, true, true, true, true, true, true, true, true, true, true, false, false] rfl rfl (one_of HT_.out (by kernel_rfl)) (by decide) (fun KK hKK => ?_)
        refine goes_ Tryz.func39 (by kernel_rfl) rfl #[.slice A L.length c, .string x] (by rfl) rfl rfl (by (try simp only [List.map_toArray, List.map_cons, List.map_nil]); first | done | rfl) ?_
        with_reducible refine (concordanceref09_Postings.calls kp A c L x (posts L x) w14 (Kd.C_below CE.out hb14) hc HKP.out).mono ?_
        rintro e w15 ⟨qv, rfl, hqv, hb15⟩
        refine ⟨_, rfl, ?_⟩
        obtain ⟨Aq, cq, rfl⟩ := Kd.R_slice (Kd.S_R hqv)
        have u0 := cell_stay2 hb15 z0
        have u1 := cell_stay2 hb15 z1
        refine hKK.out _ _ ⟨u0, u1⟩ (fun hHeld => ?_)
        clear hKK KK
        refine norm_ (a' := ?_) ?_ ?_
        rotate_left
        · show Act.put _ (some 81) _ = _
          simp only [Act.put, List.setIfInBounds_toArray, List.set_cons_zero, List.set_cons_succ, i64_w, i32_w]
          rfl
        refine one_ (i := 13) (N := some 82) #[true, true, true, true, true, true, true, true, true, true, true, true, true, true, false] rfl rfl (one_of HT_.out (by kernel_rfl)) (by decide) (fun KK hKK => ?_)
        refine goes_ Tryz.func38 (by kernel_rfl) rfl #[.slice Ap (posts L x).length cp, .slice Aq (posts L x).length cq] (by rfl) rfl rfl (by (try simp only [List.map_toArray, List.map_cons, List.map_nil]); first | done | rfl) ?_
        with_reducible refine (concordanceref05_Same.calls k5 Ap cp (posts L x) Aq cq (posts L x) true w15 (Kd.R_reads' (Kd.R_below hpv hb15)).2.2 (Kd.R_reads' hpv).2.1 (Kd.R_reads' (Kd.S_R hqv)).2.2 (Kd.R_reads' (Kd.S_R hqv)).2.1 HK5.out).mono ?_
        rintro e w16 ⟨rfl, hd16⟩
        refine ⟨_, rfl, ?_⟩
        have v0 := cell_stay2 hd16.below u0
        have v1 := cell_stay2 hd16.below u1
        refine hKK.out _ _ ⟨v0, v1⟩ (fun hHeld => ?_)
        clear hKK KK
        refine norm_ (a' := ?_) ?_ ?_
        rotate_left
        · show Act.put _ (some 82) _ = _
          simp only [Act.put, List.setIfInBounds_toArray, List.set_cons_zero, List.set_cons_succ, i64_w, i32_w]
          rfl
        refine pure_ (i := 14) (N := some 83) (v := ?_) (a' := ?_) #[true, true, true, true, true, true, true, true, true, true, true, true, true, true, true] rfl rfl (any_of HT_.out (by kernel_rfl)) (fun _ _ _ h => h) (Or.inl ⟨by rfl, ?_⟩) ?_ ?_
        rotate_left
        · intro w'
          go_simp
          with_reducible rfl
        rotate_left
        · simp only [Act.put, List.setIfInBounds_toArray, List.set_cons_zero, List.set_cons_succ, i64_w, i32_w]
          rfl
        refine done_ (done_of HT_.out (by kernel_rfl)) ?_
        have HB16 := Lib.hid (((HBE.out.trans (hb14.mono HBE.out.size)).trans (hb15.mono (Nat.le_trans HBE.out.size hb14.size))).trans (hd16.below.mono (Nat.le_trans (Nat.le_trans HBE.out.size hb14.size) hb15.size)))
        have wj : wrap64 ((i : Int) + 1) = ((i + 1 : Nat) : Int) := wrap_nat i (by omega)
        have wk : IntKind.i64.wrap ((i : Int) + 1) = ((i + 1 : Nat) : Int) := by rw [i64_w]; exact wj
        clear hHeld z0 z1 u0 u1 v0 v1 y0 y1 hb14 hb15 hd16 hpv hqv BE CE HBE
        go_wp2_with fail
        go_roundw
        case rel =>
          have h7 := HLT.out
          exact ⟨i + 1, by first | rfl | rw [wj] | rw [wk], by omega, HB16.out⟩
        case measure =>
          have h7 := HLT.out
          simp only [intOf]
          omega
      · obtain rfl : i = n := by omega
        have d1 : decide ((i : Int) < (i : Int)) = false := decide_eq_false (by omega)
        have HEND := Lib.hid (HB13.out.trans (hbr.mono HB13.out.size))
        clear hbr
        go_wp2_with fail
        go_ret
        exact ⟨rfl, HEND.out⟩
end Go.Proofs.YteidebllianiiaaGreatDoor
