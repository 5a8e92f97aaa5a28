/- Sets of numbers as bits: Next. Condition: the library's table is as its initialiser lays it. -/
import Derived.Test.YtfoheajcahiceaaDoorRead
namespace Go.Proofs.YtfoheajcahiceaaDoor
open Go.RowKit Go.Proofs.YtfoheajcahiceaaDoor.PAll Go.Proofs.YtfoheajcahiceaaDoorW.PrintWords Go.Proofs.YtfoheajcahiceaaDoorW.PrintLast Go.Proofs.YtfoheajcahiceaaDoorW.PrintMore

/-- The library's table is there. -/
def Tab (w : World) : Prop := TabAt 0 Lib.deBruijn64tab w
theorem Tab.lt {w : World} (h : Tab w) : 0 < w.heap.size := by
  have h0 := h 0 (by decide)
  unfold World.cell? at h0
  apply Nat.lt_of_not_le
  intro hle
  have : w.heap[0]? = none := Array.getElem?_eq_none hle
  simp [this] at h0
theorem Tab.below {w w' : World} (h : Tab w) (hb : Below w.heap.size w w') : Tab w' := fun j hj => (hb.cell (p := ⟨0, j, none⟩) h.lt).trans (h j hj)
theorem Tab.grown {w w' : World} (h : Tab w) {row : Option Nat} (hb : w.grownBy w' row) (hr : some 0 ≠ row) : Tab w' := fun j hj => (World.cell?_of_block (w := w) (hb.block 0 h.lt hr)).trans (h j hj)

set_option maxHeartbeats 1000000 in
theorem tz_core (x k idx : Nat) (w : World) (hx0 : ((x : Int) == 0) = false)
    (key : IntKind.u64.wrap (bits BinOp.and IntKind.u64 (x : Int) (IntKind.u64.wrap (-(x : Int))) * 285870213051353865) / 288230376151711744 = (idx : Int))
    (hi : idx < 64) (hk : k < 64) (hcell : w.cell? ⟨0, idx, none⟩ = some (.int .u8 k)) :
    Calls Tryd.prog 39 #[.int .u64 x] w fun e w' => e = .returned (.int .i64 k) ∧ w' = w := by
  go_enter Tryd.func39, Tryd.ntmps39
  go_wp2_with (simp only [key])
  go_ret
  exact ⟨rfl, rfl⟩
/-- The lowest bit's place. -/
theorem tz_any (x : Nat) (hx : x < 18446744073709551616) (hx0 : x ≠ 0) (w : World) (hT : Tab w) :
    Calls Tryd.prog 39 #[.int .u64 x] w fun e w' => e = .returned (.int .i64 (Lib.ctz 64 x)) ∧ w' = w := by
  obtain ⟨hlow, hk⟩ := Lib.lowest_bit 64 x hx0 hx
  obtain ⟨hi, htab⟩ := Lib.deBruijn64_at _ hk
  have hcell := hT _ hi
  rw [htab] at hcell
  exact tz_core x _ _ w (by simp; omega) (tz64_key x _ hx hx0 hlow) hi hk hcell

theorem ctz_bits (x : Nat) (h0 : x ≠ 0) (h : x < 2 ^ 64) : Lib.ctz 64 x < 64 ∧ x.testBit (Lib.ctz 64 x) = true ∧ ∀ j, j < Lib.ctz 64 x → x.testBit j = false := by
  have e : Lib.ctz 64 x = Lib.ctzFrom 64 x := by simp [Lib.ctz, h0]
  rw [e]
  obtain ⟨m, hm, hk⟩ := Lib.ctzFrom_spec 64 x (by omega) h
  generalize Lib.ctzFrom 64 x = c at *
  subst hm
  refine ⟨hk, ?_, fun j hj => ?_⟩
  · rw [Nat.mul_comm, Nat.testBit_mul_two_pow]
    simp [Nat.testBit_zero]
  · rw [Nat.mul_comm, Nat.testBit_mul_two_pow]
    simp; omega

/-- The next number that is in, from i on. -/
def nextN (r : List Bool) (i : Nat) : Option Nat := (List.range r.length).find? (fun k => decide (i ≤ k) && bit r k)
def nextI (r : List Bool) (i : Int) : Int := match nextN r i.toNat with | some k => (k : Int) | none => -1
theorem nextN_none {r : List Bool} {i : Nat} (h : ∀ l, i ≤ l → bit r l = false) : nextN r i = none := by
  unfold nextN
  rw [List.find?_eq_none]
  intro x _
  by_cases hx : i ≤ x
  · simp [h x hx]
  · simp [hx]
theorem nextN_some {r : List Bool} {i k : Nat} (h1 : i ≤ k) (h2 : bit r k = true) (h3 : ∀ l, i ≤ l → l < k → bit r l = false) : nextN r i = some k := by
  have hk : k < r.length := by
    apply Nat.lt_of_not_le
    intro h
    rw [bit_out h] at h2
    cases h2
  unfold nextN
  rw [List.find?_range_eq_some]
  refine ⟨by simp [h1, h2], by simpa using hk, fun j hj => ?_⟩
  by_cases hx : i ≤ j
  · simp [h3 j hx hj]
  · simp [hx]
theorem nextI_none {r : List Bool} {i : Int} (h : ∀ l, i.toNat ≤ l → bit r l = false) : nextI r i = -1 := by unfold nextI; rw [nextN_none h]
theorem nextI_some {r : List Bool} {i : Int} {k : Nat} (h1 : i.toNat ≤ k) (h2 : bit r k = true) (h3 : ∀ l, i.toNat ≤ l → l < k → bit r l = false) : nextI r i = (k : Int) := by unfold nextI; rw [nextN_some h1 h2 h3]

theorem shr_word (r : List Bool) (k m : Nat) : ((wordN r k : Nat) : Int) / 2 ^ m = ((wordN r k / 2 ^ m : Nat) : Int) := by rw [Int.natCast_ediv, Int.natCast_pow]; rfl
theorem shr_bits (r : List Bool) (k m l : Nat) (h : m + l < 64) : (wordN r k / 2 ^ m).testBit l = bit r (64 * k + m + l) := by
  rw [Nat.testBit_div_two_pow, show l + m = m + l by omega, wordN_bit r k _ h, Nat.add_assoc]
theorem shr_zero (r : List Bool) (k m : Nat) (h : wordN r k / 2 ^ m = 0) : ∀ l, 64 * k + m ≤ l → l < 64 * k + 64 → bit r l = false := by
  intro l h1 h2
  have := shr_bits r k m (l - 64 * k - m) (by omega)
  rw [h, show 64 * k + m + (l - 64 * k - m) = l by omega] at this
  rw [← this]; simp

set_option maxHeartbeats 1000000 in
set_option maxRecDepth 100000 in
theorem next_any (base g : Nat) (v : Value) (r : List Bool) (i : Int) (w : World) (hS : IsSet w base g v r) (hT : Tab w) (hl : r.length ≤ 100000) :
    Calls Tryd.prog 17 #[.pointer (some ⟨g, 0, none⟩), .int .i64 i] w fun e w' => e = .returned (.int .i64 (nextI r i)) ∧ Below w.heap.size w w' := by
  obtain ⟨A, c, rfl, hC⟩ := hS.form
  have h0 := hS.c0
  have h1 := hS.c1
  obtain ⟨I, hI⟩ : ∃ I, i.toNat = I := ⟨_, rfl⟩
  obtain ⟨R, hR⟩ : ∃ R, nextI r i = R := ⟨_, rfl⟩
  rw [hR]
  have HR := Lib.hid (And.intro hR hI)
  clear hR
  go_enter Tryd.func17, Tryd.ntmps17
  go_upto_region 1 with fail
  go_cut [1] (fun v1 wx => v1 = .int .i64 I ∧ wx = w)
  case first =>
    by_cases hi : i < 0
    · obtain rfl : 0 = I := by omega
      go_wp2_with fail
      all_goals (go_meet; exact ⟨rfl, rfl⟩)
    · obtain rfl : i = (I : Int) := by omega
      clear hi hI
      go_wp2_with fail
      all_goals (go_meet; exact ⟨rfl, rfl⟩)
  case rest =>
    obtain ⟨rfl, rfl⟩ := hcut
    clear hI
    go_wp2_with fail
    go_loopw [1] (fun va wr => ∃ j : Nat, va = .int .i64 j ∧ Hid (I ≤ j ∧ ∀ l, I ≤ l → l < j → bit r l = false) ∧ Below wc.heap.size wc wr) (fun va _ => r.length - (intOf va).toNat)
    case atStart => exact ⟨I, rfl, Lib.hid ⟨Nat.le_refl _, fun l h1 h2 => by omega⟩, Below.refl _ _⟩
    case round =>
      obtain ⟨j, rfl, hj, hb⟩ := hrel
      have hC1 := Kd.C_below hC hb
      have y0 := (hb.cell (p := ⟨g, 0, none⟩) hS.lt).trans h0
      have y1 := (hb.cell (p := ⟨g, 1, none⟩) hS.lt).trans h1
      have hT1 := hT.below hb
      clear hC h0 h1 hS hT
      by_cases hlt : j < r.length
      · obtain ⟨k, hk⟩ : ∃ k : Nat, (j : Int) / 64 = (k : Int) := ⟨j / 64, by omega⟩
        obtain ⟨m, hm⟩ : ∃ m : Nat, (j : Int) % 64 = (m : Int) := ⟨j % 64, by omega⟩
        have hm2 : m < 64 := by omega
        have hjk : j = 64 * k + m := by omega
        have hk1 : k < nW r.length := by unfold nW; omega
        obtain ⟨ad, rfl, hx⟩ := Kd.at_int hC1 (k : Int) (by omega) (by omega)
        rw [rd_words r _ hk1, Int.toNat_natCast] at hx
        have p0 := eq_true (show (0 : Int) ≤ (k : Int) by omega)
        have p1 := eq_true (show (k : Int) < (nW r.length : Int) by omega)
        have p2 := eq_true (show (0 : Int) ≤ (m : Int) by omega)
        have p3 : min m 64 = m := by omega
        have p4 := shr_word r k m
        have hX : wordN r k / 2 ^ m < 18446744073709551616 := Nat.lt_of_le_of_lt (Nat.div_le_self _ _) (wordN_lt r k)
        have hXm : wordN r k / 2 ^ m < 2 ^ (64 - m) := Nat.div_lt_of_lt_mul (by rw [← Nat.pow_add, show m + (64 - m) = 64 by omega]; exact wordN_lt r k)
        have HXM := Lib.hid hXm
        clear hXm
        have hz := shr_zero r k m
        have hbt := fun l => shr_bits r k m l
        generalize wordN r k / 2 ^ m = X at *
        have HJ := Lib.hid hjk
        have HZ := Lib.hid hz
        have HBT := Lib.hid hbt
        have HX := Lib.hid hX
        clear hC1 hz hbt hjk hX
        by_cases hX0 : X = 0
        · subst hX0
          have h2 : (64 : Int) - (m : Int) = ((64 - m : Nat) : Int) := by omega
          generalize hD : 64 - m = D at *
          have HD := Lib.hid hD
          clear hD
          go_wp2_with fail
          go_roundw
          case rel =>
            have hjk := HJ.out
            have hdd := HD.out
            have hz := HZ.out rfl
            have hjj := hj.out
            refine ⟨j + D, by go_num, Lib.hid ⟨by omega, fun l h1 h2 => ?_⟩, hb⟩
            by_cases hlj : l < j
            · exact hjj.2 l h1 hlj
            · exact hz l (by omega) (by omega)
          case measure => have := HD.out; simp [intOf]; omega
        · have hne : ((X : Int) == 0) = false := by rw [beq_eq_false_iff_ne]; omega
          have hne2 : ¬ ((X : Int) = 0) := by omega
          obtain ⟨c1, c2, c3⟩ := ctz_bits X hX0 HX.out
          have HC := Lib.hid (And.intro c1 (And.intro c2 c3))
          have h64 : Lib.ctz 64 X < 64 := c1
          clear c1 c2 c3
          go_wp2_with fail
          refine (tz_any X HX.out hX0 _ hT1).mono ?_
          rintro e w1 ⟨rfl, rfl⟩
          generalize Lib.ctz 64 X = z at *
          have hfin : (((j + z : Nat) : Int)) = R := by
            obtain ⟨hR, hI⟩ := HR.out
            obtain ⟨c1, c2, c3⟩ := HC.out
            have hjk := HJ.out
            have hbt := HBT.out
            have hjj := hj.out
            have hin : m + z < 64 := by
              apply Nat.lt_of_not_le
              intro hge
              have : X.testBit z = false := by
                exact Nat.testBit_lt_two_pow (Nat.lt_of_lt_of_le HXM.out (Nat.pow_le_pow_right (by decide) (by omega)))
              rw [this] at c2; cases c2
            rw [← hR]
            refine (nextI_some (by omega) ?_ ?_).symm
            · rw [hjk]; rw [← hbt z hin]; exact c2
            · intro l h1 h2
              rw [hI] at h1
              by_cases hlj : l < j
              · exact hjj.2 l h1 hlj
              · have := hbt (l - j) (by omega)
                rw [show 64 * k + m + (l - j) = l by omega] at this
                rw [← this]; exact c3 _ (by omega)
          clear HC HX HJ HZ HBT hj HR
          subst hfin
          go_wp2_with fail
          go_ret
          exact ⟨by go_num, hb⟩
      · have hfin : (-1 : Int) = R := by
          obtain ⟨hR, hI⟩ := HR.out
          rw [← hR]
          refine (nextI_none (fun l h => ?_)).symm
          rw [hI] at h
          by_cases hlj : l < j
          · exact hj.out.2 l h hlj
          · exact bit_out (by omega)
        subst hfin
        clear hC1
        go_wp2_with fail
        go_ret
        exact ⟨rfl, hb⟩
end Go.Proofs.YtfoheajcahiceaaDoor
