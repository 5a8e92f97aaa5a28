/- Sets of numbers as bits: Put, Cut, New. No condition. -/
import Derived.Test.YtfoheajcahiceaaDoorSet
namespace Go.Proofs.YtfoheajcahiceaaDoor
open Go.RowKit Go.Proofs.YtfoheajcahiceaaDoor.PAll Go.Proofs.YtfoheajcahiceaaDoorW.PrintWords Go.Proofs.YtfoheajcahiceaaDoorW.PrintLast Go.Proofs.YtfoheajcahiceaaDoorW.PrintMore

theorem IsSet.drew {w : World} {base g : Nat} {v : Value} {r : List Bool} (h : IsSet w base g v r) : IsSet w.drew base g v r := ⟨h.cell, h.ge, Kd.R_drew h.row⟩
theorem grown_drew {w w' : World} {row : Option Nat} (h : w.grownBy w' row) : w.grownBy w'.drew row := ⟨h.os, h.tape, h.output, h.size, h.block⟩
theorem bits_xor_u64_nat (a b : Nat) (ha : a < 18446744073709551616) (hb : b < 18446744073709551616) :
    Go.bits .xor .u64 (a : Int) (b : Int) = ((a ^^^ b : Nat) : Int) := by
  have hx : a ^^^ b < 2 ^ 64 := Nat.xor_lt_two_pow (by omega) (by omega)
  have h1 : (BitVec.ofInt 64 (a : Int)).toNat = a := by
    rw [BitVec.ofInt_natCast, BitVec.toNat_ofNat]; exact Nat.mod_eq_of_lt (by omega)
  have h2 : (BitVec.ofInt 64 (b : Int)).toNat = b := by
    rw [BitVec.ofInt_natCast, BitVec.toNat_ofNat]; exact Nat.mod_eq_of_lt (by omega)
  show IntKind.u64.wrap ((BitVec.ofInt 64 (a : Int) ^^^ BitVec.ofInt 64 (b : Int)).toNat : Int) = _
  rw [BitVec.toNat_xor, h1, h2, IntKind.wrap_u64]
  omega
theorem xor_step (x m : Nat) (hx : x < 18446744073709551616) (hm : m < 64) : Go.bits .xor .u64 (x : Int) (IntKind.u64.wrap (2 ^ m)) = ((x ^^^ 2 ^ m : Nat) : Int) := by
  have h2 : 2 ^ m < 2 ^ 64 := Nat.pow_lt_pow_right (by decide) hm
  rw [show ((2 : Int) ^ m) = ((2 ^ m : Nat) : Int) by rw [Int.natCast_pow]; rfl, IntKind.wrap_u64]
  generalize 2 ^ m = p at *
  rw [show ((p : Int) % 18446744073709551616) = (p : Int) by omega, bits_xor_u64_nat _ _ hx (by omega)]

set_option maxHeartbeats 400000 in
set_option maxRecDepth 100000 in
theorem turn_yes (base g : Nat) (v : Value) (r : List Bool) (i : Int) (b : Bool) (w : World) (hS : IsSet w base g v r) (hl : r.length ≤ 100000) (hi0 : 0 ≤ i) (hi1 : i < r.length) (hb0 : bit r i.toNat = b) :
    Calls Tryd.prog 37 #[.pointer (some ⟨g, 0, none⟩), .int .i64 i, .bool b] w fun e w' => e = .returned (.bool true) ∧ IsSet w' base g v (r.set i.toNat (!b)) ∧ w.grownBy w' v.ownBlock := by
  have hB : hasB r i = b := by unfold hasB; rw [decide_eq_true hi0, decide_eq_true hi1, hb0]; rfl
  have hB2 := Lib.hid hB
  go_enter Tryd.func37, Tryd.ntmps37
  go_wp2_with fail
  refine (in_any base g v r i w hS).mono ?_
  rintro e w1 ⟨rfl, hb⟩
  rw [decide_eq_true hi0, decide_eq_true hi1]
  go_wp2_with fail
  refine (has_any base g v r i w1 (hS.below hb) hl).mono ?_
  rintro e w2 ⟨rfl, hb'⟩
  rw [hB2.out]
  have hb2 := hb.trans (hb'.mono hb.size)
  clear hb hb' hB hB2
  have hS1 := hS.below hb2
  obtain ⟨k, hk⟩ : ∃ k, i.toNat / 64 = k := ⟨_, rfl⟩
  obtain ⟨m, hm⟩ : ∃ m, i.toNat % 64 = m := ⟨_, rfl⟩
  have hk1 : k < nW r.length := by unfold nW; omega
  obtain ⟨gb, cap, rfl, hge, hgl, _⟩ := Kd.R_form hS1.row (by rw [wordsOf_len]; omega)
  have h1 := hS1.c1
  obtain ⟨hx, hfz⟩ := Kd.R_cell (0 : Int) hS1.row (k : Int) (by omega) (by rw [wordsOf_len]; omega)
  obtain ⟨hp, hgr⟩ := Kd.R_put hS1.row (k : Int) ((wordN r k ^^^ 2 ^ m : Nat) : Int)
  change _ = some (Value.int .u64 (rd (wordsOf r) (k : Int))) at hx
  rw [rd_words r _ hk1, Int.toNat_natCast] at hx
  rw [Int.toNat_natCast] at hfz hp hgr
  have hset := wordsOf_set r i.toNat (by omega)
  rw [hk, hm, hb0] at hset
  rw [hset] at hp
  have hne : some g ≠ some gb := hS1.ne_row
  have hgr' : w.grownBy (w2.setCell ⟨gb, k, none⟩ (.int .u64 ((wordN r k ^^^ 2 ^ m : Nat) : Int))) (some gb) := (grown_of_below hb2 _).trans hgr
  have hS2 : IsSet (w2.setCell ⟨gb, k, none⟩ (.int .u64 ((wordN r k ^^^ 2 ^ m : Nat) : Int))) base g (.slice (some ⟨gb, 0, none⟩) (wordsOf r).length cap) (r.set i.toNat (!b)) :=
    ⟨by rw [List.length_set]; exact (hgr.block g hS1.lt hne).trans hS1.cell, hS1.ge, hp⟩
  obtain ⟨q1, q1b⟩ := quo64 i k hi0 (by omega) hk
  have q2 := rem64 i m hi0 hm
  rw [wordsOf_len] at h1
  have p0 := eq_true (show (0 : Int) ≤ (k : Int) by omega)
  have p1 := eq_true (show (k : Int) < ((nW r.length : Nat) : Int) by omega)
  have p2 := eq_true (show (0 : Int) ≤ (m : Int) by omega)
  have q5 : min m 64 = m := by omega
  have q6 := xor_step (wordN r k) m (wordN_lt _ _) (by omega)
  generalize ((wordN r k ^^^ 2 ^ m : Nat) : Int) = X at *
  clear hS hS1 hl hk hm hk1 hi0 hi1 hp hgr hset hne hge hgl hb2
  cases b
  · go_wp2
    go_region_law (fail)
    go_wp2
    go_ret
    exact ⟨rfl, hS2.drew, grown_drew hgr'⟩
  · go_wp2
    go_region_law (fail)
    go_wp2
    go_ret
    exact ⟨rfl, hS2.drew, grown_drew hgr'⟩

set_option maxHeartbeats 400000 in
set_option maxRecDepth 100000 in
theorem turn_no (base g : Nat) (v : Value) (r : List Bool) (i : Int) (b : Bool) (w : World) (hS : IsSet w base g v r) (hl : r.length ≤ 100000) (hn : ¬ (0 ≤ i ∧ i < r.length ∧ bit r i.toNat = b)) :
    Calls Tryd.prog 37 #[.pointer (some ⟨g, 0, none⟩), .int .i64 i, .bool b] w fun e w' => e = .returned (.bool false) ∧ Below w.heap.size w w' := by
  by_cases hi : 0 ≤ i ∧ i < r.length
  · have hB : hasB r i = !b := by
      unfold hasB; rw [decide_eq_true hi.1, decide_eq_true hi.2]
      show bit r i.toNat = !b
      have : bit r i.toNat ≠ b := fun e => hn ⟨hi.1, hi.2, e⟩
      cases b <;> cases hh : bit r i.toNat <;> simp_all
    have hB2 := Lib.hid hB
    have hi2 : (decide (0 ≤ i) && decide (i < (r.length : Int))) = true := by rw [decide_eq_true hi.1, decide_eq_true hi.2]; rfl
    have hI := Lib.hid hi2
    clear hB hi2 hi hn
    go_enter Tryd.func37, Tryd.ntmps37
    go_wp2_with fail
    refine (in_any base g v r i w hS).mono ?_
    rintro e w1 ⟨rfl, hb⟩
    rw [hI.out]
    go_wp2_with fail
    refine (has_any base g v r i w1 (hS.below hb) hl).mono ?_
    rintro e w2 ⟨rfl, hb'⟩
    rw [hB2.out]
    have hb2 := hb.trans (hb'.mono hb.size)
    clear hb hb' hB2
    cases b
    · go_wp2
      go_ret
      exact ⟨rfl, hb2⟩
    · go_wp2
      go_ret
      exact ⟨rfl, hb2⟩
  · have hi2 : (decide (0 ≤ i) && decide (i < (r.length : Int))) = false := by rw [Bool.and_eq_false_iff, decide_eq_false_iff_not, decide_eq_false_iff_not]; omega
    have hI := Lib.hid hi2
    clear hi2 hi hn
    go_enter Tryd.func37, Tryd.ntmps37
    go_wp2_with fail
    refine (in_any base g v r i w hS).mono ?_
    rintro e w1 ⟨rfl, hb⟩
    rw [hI.out]
    go_wp2
    go_ret
    exact ⟨rfl, hb⟩

/-- A set where a number is so, or not, and whether it was otherwise. -/
def turnB (r : List Bool) (i : Int) (b : Bool) : List Bool × Bool := if 0 ≤ i ∧ i < r.length ∧ bit r i.toNat = b then (r.set i.toNat (!b), true) else (r, false)
theorem turnB_len (r : List Bool) (i : Int) (b : Bool) : (turnB r i b).1.length = r.length := by unfold turnB; split <;> simp
theorem turn_any (base g : Nat) (v : Value) (r : List Bool) (i : Int) (b : Bool) (w : World) (hS : IsSet w base g v r) (hl : r.length ≤ 100000) :
    Calls Tryd.prog 37 #[.pointer (some ⟨g, 0, none⟩), .int .i64 i, .bool b] w fun e w' => e = .returned (.bool (turnB r i b).2) ∧ IsSet w' base g v (turnB r i b).1 ∧ w.grownBy w' v.ownBlock := by
  by_cases h : 0 ≤ i ∧ i < r.length ∧ bit r i.toNat = b
  · refine (turn_yes base g v r i b w hS hl h.1 h.2.1 h.2.2).mono ?_
    rintro e w' ⟨rfl, h1, h2⟩
    unfold turnB
    rw [if_pos h]
    exact ⟨rfl, h1, h2⟩
  · refine (turn_no base g v r i b w hS hl h).mono ?_
    rintro e w' ⟨rfl, h1⟩
    unfold turnB
    rw [if_neg h]
    exact ⟨rfl, hS.below h1, grown_of_below h1 _⟩

set_option maxRecDepth 100000 in
theorem put_any (base g : Nat) (v : Value) (r : List Bool) (i : Int) (w : World) (hS : IsSet w base g v r) (hl : r.length ≤ 100000) :
    Calls Tryd.prog 13 #[.pointer (some ⟨g, 0, none⟩), .int .i64 i] w fun e w' => e = .returned (.bool (turnB r i false).2) ∧ IsSet w' base g v (turnB r i false).1 ∧ w.grownBy w' v.ownBlock := by
  go_enter Tryd.func13, Tryd.ntmps13
  go_wp2_with fail
  refine (turn_any base g v r i false w hS hl).mono ?_
  rintro e w' ⟨rfl, h1, h2⟩
  go_wp2_with fail
  go_ret
  exact ⟨rfl, h1, h2⟩
set_option maxRecDepth 100000 in
theorem cut_any (base g : Nat) (v : Value) (r : List Bool) (i : Int) (w : World) (hS : IsSet w base g v r) (hl : r.length ≤ 100000) :
    Calls Tryd.prog 14 #[.pointer (some ⟨g, 0, none⟩), .int .i64 i] w fun e w' => e = .returned (.bool (turnB r i true).2) ∧ IsSet w' base g v (turnB r i true).1 ∧ w.grownBy w' v.ownBlock := by
  go_enter Tryd.func14, Tryd.ntmps14
  go_wp2_with fail
  refine (turn_any base g v r i true w hS hl).mono ?_
  rintro e w' ⟨rfl, h1, h2⟩
  go_wp2_with fail
  go_ret
  exact ⟨rfl, h1, h2⟩
set_option maxRecDepth 100000 in
theorem size_any (base g : Nat) (v : Value) (r : List Bool) (w : World) (hS : IsSet w base g v r) :
    Calls Tryd.prog 19 #[.pointer (some ⟨g, 0, none⟩)] w fun e w' => e = .returned (.int .i64 r.length) ∧ Below w.heap.size w w' := by
  have h0 := hS.c0
  go_enter Tryd.func19, Tryd.ntmps19
  go_wp2
  go_ret
  exact ⟨rfl, Below.refl _ _⟩

theorem infoU64 : (Tryd.prog.info? 57).map (fun i => (i.zero, i.size, i.bytes)) = some (some (.int .u64 0), 1, 8) := by kernel_rfl
set_option maxHeartbeats 1000000 in
set_option maxRecDepth 100000 in
theorem new_pos (n : Int) (w : World) (hl : n ≤ 100000) (hs : ¬ n < 0) :
    Calls Tryd.prog 33 #[.int .i64 n] w fun e w' => ∃ g v, e = .returned (.pointer (some ⟨g, 0, none⟩)) ∧ IsSet w' w.heap.size g v (List.replicate n.toNat false) ∧ (∀ k, v.ownBlock = some k → w.heap.size ≤ k) ∧ Below w.heap.size w w' := by
  obtain ⟨m, hm⟩ : ∃ m : Nat, m = n.toNat := ⟨_, rfl⟩
  rw [← hm]
  have hbig : ((n + 64 - 1) / 64 : Int).toNat * 8 ≤ 281474976710656 := by omega
  have hnn : 0 ≤ ((n + 64 - 1) / 64 : Int) := by omega
  have hL := Lib.hid (And.intro hl hm)
  clear hl hm
  go_enter Tryd.func33, Tryd.ntmps33
  go_wp2_with (at_make; go_loud (refine Kd.R_make (Kd.int .u64) (w0 := w) w.heap.size 57 rfl rfl 54 (.tmp 9) (.tmp 9) rfl ((n + 64 - 1) / 64) rfl rfl Tryd.underlying54 (.int .u64 0) 8 infoU64 rfl (by decide) (by decide) 0 (ok := fun _ => True) (okp := fun _ => True) rfl (fun _ _ => trivial) trivial hnn hbig (Below.refl _ _) (Nat.le_refl _) ?_))
  intro v w1 hR hb1 hg1 kb hk1 hk2
  obtain ⟨hl, hm⟩ := hL.out
  have e2 : ((n + 64 - 1) / 64 : Int).toNat = nW (List.replicate m false).length := by simp only [List.length_replicate, nW]; omega
  rw [e2, wordsOf_none, List.length_replicate] at hR
  obtain rfl : n = (m : Int) := by omega
  obtain ⟨A, c, rfl⟩ := Kd.R_slice hR
  have HK := Lib.hid (And.intro hk1 hk2)
  clear e2 hL hl hbig hnn hg1 hs hm hk1 hk2
  go_wp2
  go_ret
  refine ⟨w1.heap.size, _, rfl, ⟨by rw [List.length_replicate]; exact World.alloc_heap_new w1 _, hb1.size, Kd.R_alloc hR _⟩, ?_, hb1.alloc hb1.size _⟩
  intro k hk
  obtain rfl := Option.some.inj (HK.out.1.symm.trans hk)
  exact HK.out.2
set_option maxHeartbeats 1000000 in
set_option maxRecDepth 100000 in
theorem new_neg (n : Int) (w : World) (hl : n ≤ 100000) (hs : n < 0) :
    Calls Tryd.prog 33 #[.int .i64 n] w fun e w' => ∃ g v, e = .returned (.pointer (some ⟨g, 0, none⟩)) ∧ IsSet w' w.heap.size g v (List.replicate n.toNat false) ∧ (∀ k, v.ownBlock = some k → w.heap.size ≤ k) ∧ Below w.heap.size w w' := by
  obtain ⟨m, hm⟩ : ∃ m : Nat, m = n.toNat := ⟨_, rfl⟩
  rw [← hm]
  have hbig : (0 : Int).toNat * 8 ≤ 281474976710656 := by omega
  have hnn : 0 ≤ (0 : Int) := by omega
  have hL := Lib.hid (And.intro hl hm)
  clear hl hm
  go_enter Tryd.func33, Tryd.ntmps33
  go_wp2_with (at_make; go_loud (refine Kd.R_make (Kd.int .u64) (w0 := w) w.heap.size 57 rfl rfl 54 (.tmp 9) (.tmp 9) rfl (0) rfl rfl Tryd.underlying54 (.int .u64 0) 8 infoU64 rfl (by decide) (by decide) 0 (ok := fun _ => True) (okp := fun _ => True) rfl (fun _ _ => trivial) trivial hnn hbig (Below.refl _ _) (Nat.le_refl _) ?_))
  intro v w1 hR hb1 hg1 kb hk1 hk2
  obtain ⟨hl, hm⟩ := hL.out
  obtain rfl : m = 0 := by omega
  rw [show ([] : List Int) = wordsOf (List.replicate 0 false) from rfl] at hR
  obtain ⟨A, c, rfl⟩ := Kd.R_slice hR
  have HK := Lib.hid (And.intro hk1 hk2)
  clear hL hl hbig hnn hg1 hs hm hk1 hk2
  go_wp2
  go_ret
  refine ⟨w1.heap.size, _, rfl, ⟨by rw [List.length_replicate]; exact World.alloc_heap_new w1 _, hb1.size, Kd.R_alloc hR _⟩, ?_, hb1.alloc hb1.size _⟩
  intro k hk
  obtain rfl := Option.some.inj (HK.out.1.symm.trans hk)
  exact HK.out.2
/-- A set of none. -/
theorem new_any (n : Int) (w : World) (hl : n ≤ 100000) :
    Calls Tryd.prog 33 #[.int .i64 n] w fun e w' => ∃ g v, e = .returned (.pointer (some ⟨g, 0, none⟩)) ∧ IsSet w' w.heap.size g v (List.replicate n.toNat false) ∧ (∀ k, v.ownBlock = some k → w.heap.size ≤ k) ∧ Below w.heap.size w w' := by
  by_cases h : n < 0
  · exact new_neg n w hl h
  · exact new_pos n w hl h
end Go.Proofs.YtfoheajcahiceaaDoor
