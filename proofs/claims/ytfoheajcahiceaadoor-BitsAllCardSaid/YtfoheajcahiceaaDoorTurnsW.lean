/- BitsTurns: the walk. Condition: the library's table is as its initialiser lays it. -/
import Derived.Test.YtfoheajcahiceaaDoorMade
namespace Go.Proofs.YtfoheajcahiceaaDoor
open Go.RowKit Go.Proofs.YtfoheajcahiceaaDoor.PAll Go.Proofs.YtfoheajcahiceaaDoorW.PrintWords Go.Proofs.YtfoheajcahiceaaDoorW.PrintLast Go.Proofs.YtfoheajcahiceaaDoorW.PrintMore

theorem size_law (n : Int) (w : World) :
    Calls Tryd.prog 10 #[.int .i64 n] w fun e w' => ∃ m : Int, e = .returned (.int .i64 m) ∧ m ≤ 200 ∧ m = (if n > 200 then Int.tmod n 201 else n) ∧ Below w.heap.size w w' := by
  have h : concordancelaw03_size.f n = some (if n > 200 then Int.tmod n 201 else n) := by unfold concordancelaw03_size.f; split <;> rfl
  refine (concordancelaw03_size.calls n _ w h).mono ?_
  rintro e w' ⟨rfl, hd⟩
  refine ⟨_, rfl, ?_, rfl, below_drawn hd⟩
  split
  · rw [Int.tmod_eq_emod_of_nonneg (by omega)]; omega
  · omega

theorem cnt_same {r r2 : List Bool} : ∀ n, (∀ j, j < n → bit r2 j = bit r j) → cnt r2 n = cnt r n
  | 0, _ => rfl
  | n + 1, h => by
    show cnt r2 n + (bit r2 n).toNat = cnt r n + (bit r n).toNat
    rw [cnt_same n (fun j hj => h j (by omega)), h n (by omega)]
theorem cnt_set (r : List Bool) (i : Nat) (hi : i < r.length) (b : Bool) : ∀ n, i < n → cnt (r.set i b) n + (bit r i).toNat = cnt r n + b.toNat
  | 0, h => by omega
  | n + 1, h => by
    show cnt (r.set i b) n + (bit (r.set i b) n).toNat + _ = cnt r n + (bit r n).toNat + _
    by_cases hn : i = n
    · subst hn
      rw [cnt_same (r := r) (r2 := r.set i b) i (fun j hj => by rw [bit_set _ _ _ _ hi, if_neg (by omega)]), bit_set _ _ _ _ hi, if_pos rfl]; omega
    · have := cnt_set r i hi b n (by omega)
      rw [bit_set _ _ _ _ hi, if_neg (by omega)]; omega
def inB (r : List Bool) (i : Int) : Bool := decide (0 ≤ i ∧ i < r.length)
theorem turns_facts (r : List Bool) (i : Int) :
    (turnB r i false).2 = (inB r i && !hasB r i) ∧ (turnB (turnB r i false).1 i true).2 = inB r i ∧ hasB (turnB (turnB r i false).1 i true).1 i = false ∧
    cnt (turnB r i false).1 (turnB r i false).1.length = cnt r r.length + (inB r i && !hasB r i).toNat ∧
    cnt (turnB (turnB r i false).1 i true).1 (turnB (turnB r i false).1 i true).1.length + (inB r i).toNat = cnt (turnB r i false).1 (turnB r i false).1.length := by
  by_cases hin : 0 ≤ i ∧ i < r.length
  · have hI : inB r i = true := decide_eq_true hin
    have hH : hasB r i = bit r i.toNat := by unfold hasB; rw [decide_eq_true hin.1, decide_eq_true hin.2]; rfl
    rw [hI, hH]
    cases hb : bit r i.toNat
    · have e1 : turnB r i false = (r.set i.toNat true, true) := by unfold turnB; rw [if_pos ⟨hin.1, hin.2, hb⟩]; rfl
      rw [e1]
      have hb2 : bit (r.set i.toNat true) i.toNat = true := by rw [bit_set _ _ _ _ (by omega), if_pos rfl]
      have e2 : turnB (r.set i.toNat true) i true = ((r.set i.toNat true).set i.toNat false, true) := by unfold turnB; rw [if_pos ⟨hin.1, by rw [List.length_set]; exact hin.2, hb2⟩]; rfl
      rw [e2]
      have c1 := cnt_set r i.toNat (by omega) true r.length (by omega)
      have c2 := cnt_set (r.set i.toNat true) i.toNat (by rw [List.length_set]; omega) false r.length (by omega)
      rw [hb] at c1
      rw [hb2] at c2
      refine ⟨rfl, rfl, ?_, ?_, ?_⟩
      · unfold hasB; rw [bit_set _ _ _ _ (by rw [List.length_set]; omega), if_pos rfl]; simp
      · simp only [List.length_set, Bool.not_false, Bool.and_true, Bool.toNat_true, Bool.toNat_false] at c1 ⊢; omega
      · simp only [List.length_set, Bool.toNat_true, Bool.toNat_false] at c2 ⊢; omega
    · have e1 : turnB r i false = (r, false) := by unfold turnB; rw [if_neg (by rintro ⟨_, _, h⟩; rw [hb] at h; cases h)]
      rw [e1]
      have e2 : turnB r i true = (r.set i.toNat false, true) := by unfold turnB; rw [if_pos ⟨hin.1, hin.2, hb⟩]; rfl
      rw [e2]
      have c1 := cnt_set r i.toNat (by omega) false r.length (by omega)
      rw [hb] at c1
      refine ⟨rfl, rfl, ?_, by simp, ?_⟩
      · unfold hasB; rw [bit_set _ _ _ _ (by omega), if_pos rfl]; simp
      · simp only [List.length_set, Bool.toNat_true, Bool.toNat_false] at c1 ⊢; omega
  · have hI : inB r i = false := decide_eq_false hin
    have e1 : ∀ b, turnB r i b = (r, false) := fun b => by unfold turnB; rw [if_neg (fun h => hin ⟨h.1, h.2.1⟩)]
    rw [hI, e1 false, e1 true]
    refine ⟨rfl, rfl, ?_, by simp, by simp⟩
    dsimp only
    unfold hasB
    rw [← Bool.and_assoc, Bool.and_eq_false_iff]
    left
    rw [Bool.and_eq_false_iff, decide_eq_false_iff_not, decide_eq_false_iff_not]
    omega

set_option maxHeartbeats 2000000 in
set_option maxRecDepth 100000 in
theorem bitsTurns_walk (n : Int) (A : Option Addr) (nl c : Nat) (l : Nat → Int × Int) (i : Int) (w : World) (hT : Tab w) (hD : Deeds w A nl l) :
    Calls Tryd.prog 3 #[.int .i64 n, .slice A nl c, .int .i64 i] w fun e w' => e = .returned (.bool true) ∧ Below w.heap.size w w' := by
  go_enter Tryd.func3, Tryd.ntmps3
  go_wp2_with fail
  refine (size_law n w).mono ?_
  rintro e w0 ⟨m, rfl, hm, -, hb0⟩
  go_wp2_with fail
  refine (made_any m A nl c l w0 (hT.below hb0) (by omega) (hD.below hb0)).mono ?_
  rintro e w1 ⟨g, v, vr, r, rfl, hS, hR, hlr, hb1⟩
  have hl : r.length ≤ 100000 := by omega
  obtain ⟨AR, cR, rfl, hcR, hCR⟩ := Kd.R_reads hR
  have hT0 := hT.below hb0
  have hT1 := hT0.below hb1
  have hB1 := hb0.trans (hb1.mono hb0.size)
  have HL := Lib.hid (And.intro hl hm)
  clear hlr hm hT hD hl
  go_wp2_with fail
  refine (concordanceref03_Has.calls AR cR r i _ w1 hCR hcR (ref_has r i)).mono ?_
  rintro e w2 ⟨rfl, hd2⟩
  have hb2 := below_drawn hd2
  have hS2 := hS.below hb2
  have hT2 := hT1.below hb2
  have hB2 := hB1.trans (hb2.mono hB1.size)
  clear hd2 hS hR hT1 hCR hcR
  go_upto_region 5 with fail
  go_cut [11] (fun v11 wx => v11 = .bool (inB r i) ∧ wx = w2)
  case first =>
    by_cases h0 : 0 ≤ i
    · by_cases h1 : i < r.length
      · have hI := Lib.hid (show inB r i = true from decide_eq_true ⟨h0, h1⟩)
        go_wp2_with fail
        go_meet
        exact ⟨by rw [hI.out], rfl⟩
      · have hI := Lib.hid (show inB r i = false from decide_eq_false (fun h => h1 h.2))
        go_wp2_with fail
        go_meet
        exact ⟨by rw [hI.out], rfl⟩
    · have hI := Lib.hid (show inB r i = false from decide_eq_false (fun h => h0 h.1))
      go_wp2_with fail
      go_meet
      exact ⟨by rw [hI.out], rfl⟩
  case rest =>
    obtain ⟨rfl, rfl⟩ := hcut
    go_wp2_with fail
    refine (count_any _ g v r _ hS2 HL.out.1).mono ?_
    rintro e w3 ⟨rfl, hb3⟩
    have hS3 := hS2.below hb3
    have hT3 := hT2.below hb3
    have hB3 := hB2.trans (hb3.mono hB2.size)
    go_wp2_with fail
    refine (put_any _ g v r i w3 hS3 HL.out.1).mono ?_
    rintro e w4 ⟨rfl, hS4, hg4⟩
    have hT4 := tab_step hT3 hS3 hT0.lt hg4
    have hB4 := below_step hB3 hS3 hb0.size hB3.size hg4
    obtain ⟨f1, f2, f3, f4, f5⟩ := turns_facts r i
    have HK := Lib.hid (show cnt r r.length ≤ 100000 from Nat.le_trans (cnt_le r _) HL.out.1)
    have len1 := turnB_len r i false
    rw [f1]
    rw [← len1] at HL
    generalize inB r i = IN at *
    generalize hasB r i = HB at *
    generalize (turnB r i false).1 = r1 at *
    have HF := Lib.hid (And.intro f2 (And.intro f3 (And.intro f4 f5)))
    clear f1 f2 f3 f4 f5 hS2 hS3 hT2 hT3 hB2 hB3 hb3 len1
    go_wp2_with fail
    refine (count_any _ g v r1 _ hS4 HL.out.1).mono ?_
    rintro e w5 ⟨rfl, hb5⟩
    have hS5 := hS4.below hb5
    have hT5 := hT4.below hb5
    have hB5 := hB4.trans (hb5.mono hB4.size)
    go_wp2_with fail
    refine (cut_any _ g v r1 i w5 hS5 HL.out.1).mono ?_
    rintro e w6 ⟨rfl, hS6, hg6⟩
    have hT6 := tab_step hT5 hS5 hT0.lt hg6
    have hB6 := below_step hB5 hS5 hb0.size hB5.size hg6
    have len2 := turnB_len r1 i true
    rw [HF.out.1]
    rw [← len2] at HL
    have HF2 := Lib.hid HF.out.2
    clear HF
    generalize (turnB r1 i true).1 = r2 at *
    clear hS4 hS5 hT4 hT5 hB4 hB5 hb5 len2
    go_wp2_with fail
    refine (count_any _ g v r2 _ hS6 HL.out.1).mono ?_
    rintro e w7 ⟨rfl, hb7⟩
    have hS7 := hS6.below hb7
    have hT7 := hT6.below hb7
    have hB7 := hB6.trans (hb7.mono hB6.size)
    obtain ⟨f3, f4, f5⟩ := HF2.out
    have hk := HK.out
    have HL2 := Lib.hid HL.out.1
    generalize hke : cnt r r.length = k at *
    generalize hbe : cnt r1 r1.length = b at *
    generalize hde : cnt r2 r2.length = d at *
    have HF3 := Lib.hid f3
    clear HF2 f3 HL HK hke hbe hde hS6 hT6 hB6 hb7
    have hb100 : b ≤ 200000 := by have : (IN && !HB).toNat ≤ 1 := Bool.toNat_le _; omega
    have hd100 : d ≤ 200000 := by omega
    have finish : ∀ w8, Below w7.heap.size w7 w8 → Calls Tryd.prog 16 #[] w8 fun e w' => e = .returned (.bool true) ∧ Below w.heap.size w w' := fun w8 hb8 =>
      (lives_any w8 (hT7.below hb8)).mono (fun e w9 h => ⟨h.1, (hB7.trans (hb8.mono hB7.size)).trans (h.2.mono (hB7.trans (hb8.mono hB7.size)).size)⟩)
    have HFI := Lib.hid finish
    have HAS := Lib.hid (has_any _ g v r2 i w7 hS7 HL2.out)
    clear finish
    cases IN with
    | false =>
      obtain rfl : b = k := by simpa using f4
      obtain rfl : d = b := by simpa using f5
      clear f4 f5
      have hdd : ((d : Int) == (d : Int)) = true := by simp
      go_wp2_with fail
      refine HAS.out.mono ?_
      rintro e w8 ⟨rfl, hb8⟩
      rw [HF3.out]
      go_wp2_with fail
      refine (HFI.out w8 hb8).mono ?_
      rintro e w9 ⟨rfl, hb9⟩
      go_wp2_with fail
      go_ret
      exact ⟨rfl, hb9⟩
    | true =>
      cases HB with
      | false =>
        obtain rfl : b = k + 1 := by simpa using f4
        obtain rfl : d = k := by simpa using f5
        clear f4 f5
        have hdd : (((d + 1 : Nat) : Int) == (d : Int) + 1) = true := by simp
        have hde : ((d : Int) == ((d + 1 : Nat) : Int) - 1) = true := by simp
        go_wp2_with fail
        refine HAS.out.mono ?_
        rintro e w8 ⟨rfl, hb8⟩
        rw [HF3.out]
        go_wp2_with fail
        refine (HFI.out w8 hb8).mono ?_
        rintro e w9 ⟨rfl, hb9⟩
        go_wp2_with fail
        go_ret
        exact ⟨rfl, hb9⟩
      | true =>
        obtain rfl : b = k := by simpa using f4
        obtain rfl : b = d + 1 := by simpa using f5.symm
        clear f4 f5
        have hdd : (((d + 1 : Nat) : Int) == ((d + 1 : Nat) : Int)) = true := by simp
        have hde : ((d : Int) == ((d + 1 : Nat) : Int) - 1) = true := by simp
        go_wp2_with fail
        refine HAS.out.mono ?_
        rintro e w8 ⟨rfl, hb8⟩
        rw [HF3.out]
        go_wp2_with fail
        refine (HFI.out w8 hb8).mono ?_
        rintro e w9 ⟨rfl, hb9⟩
        go_wp2_with fail
        go_ret
        exact ⟨rfl, hb9⟩
end Go.Proofs.YtfoheajcahiceaaDoor
