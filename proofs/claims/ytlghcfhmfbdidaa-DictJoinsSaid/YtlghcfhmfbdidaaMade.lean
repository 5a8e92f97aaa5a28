/- Dictionaries: the one that the statements make. No condition. -/
import Derived.Test.YtlghcfhmfbdidaaMake
namespace Go.Proofs.Ytlghcfhmfbdidaa
open Go.RowKit Go.Proofs.Ytlghcfhmfbdidaa.PAll Go.Proofs.YtlghcfhmfbdidaaW.PrintWords Go.Proofs.YtlghcfhmfbdidaaW.PrintLast Go.Proofs.YtlghcfhmfbdidaaW.PrintMore

theorem infoInt : (Try.prog.info? 3).map (fun i => (i.zero, i.size, i.bytes)) = some (some (.int .i64 0), 1, 8) := by kernel_rfl
/-- The first i things are made, the others not yet. -/
def valsTo (n i : Nat) : List Int := (List.range i).map (fun j : Nat => (j : Int) + 10) ++ List.replicate (n - i) 0
def vals (n : Nat) : List Int := (List.range n).map (fun j : Nat => (j : Int) + 10)
theorem valsTo_len (n i : Nat) (h : i ≤ n) : (valsTo n i).length = n := by unfold valsTo; simp; omega
theorem valsTo_all (n : Nat) : valsTo n n = vals n := by unfold valsTo vals; simp
theorem valsTo_zero (n : Nat) : valsTo n 0 = List.replicate n 0 := by unfold valsTo; simp
theorem valsTo_succ (n i : Nat) (h : i < n) : (valsTo n i).set i ((i : Int) + 10) = valsTo n (i + 1) := by
  unfold valsTo
  have hl : ((List.range i).map (fun j : Nat => (j : Int) + 10)).length = i := by simp
  rw [List.set_append_right _ _ (by omega), hl, Nat.sub_self, List.range_succ, List.map_append, List.append_assoc]
  obtain ⟨m, hm⟩ : ∃ m, n - i = m + 1 := ⟨n - i - 1, by omega⟩
  rw [hm, List.replicate_succ, List.set_cons_zero, show n - (i + 1) = m by omega]
  rfl
theorem vals_len (n : Nat) : (vals n).length = n := by unfold vals; simp
theorem vals_at (n i : Nat) (h : i < n) : rd (vals n) (i : Int) = (i : Int) + 10 := by unfold rd vals; simp [h]

set_option maxHeartbeats 1000000 in
set_option maxRecDepth 100000 in
theorem made_any (A0 : Option Addr) (c0 k : Nat) (ns : List ByteArray) (w : World) (h0 : Kd.C Kd.string w A0 ns.length ns) (hl0 : ns.length ≤ c0) (hn : ns.length ≤ 1000000) (hr : dict_rises.f k ns = some true) :
    Calls Try.prog 10 #[.slice A0 ns.length c0] w fun e w' => ∃ g, e = .returned (.pointer (some ⟨g, 0, none⟩)) ∧ IsDR w' w.heap.size g ns (vals ns.length) ∧ Below w.heap.size w w' := by
  have hbig : ((ns.length : Int)).toNat * 8 ≤ 281474976710656 := by omega
  have hlen := Lib.hid hn
  go_enter Try.func10, Try.ntmps10
  go_wp2_with (at_make; go_loud (refine Kd.R_make (Kd.int .i64) (w0 := w) w.heap.size 3 rfl rfl 44 (.tmp 8) (.tmp 8) rfl (ns.length : Int) rfl rfl Try.underlying44 (.int .i64 0) 8 infoInt rfl (by decide) (by decide) 0 (ok := fun _ => True) (okp := fun _ => True) rfl (fun _ _ => trivial) trivial (by omega) hbig (Below.refl _ _) (Nat.le_refl _) ?_))
  intro v w1 hR hb1 hg1 hx1 hx2 hx3
  rw [← valsTo_zero] at hR
  clear hg1 hx1 hx2 hx3
  go_wp2
  go_loopw [4] (fun vi wr => ∃ i : Nat, i ≤ ns.length ∧ vi = .int .i64 i ∧ Kd.R (Kd.int .i64) 3 wr w.heap.size (fun _ => True) v (valsTo ns.length i) ∧ Below w.heap.size w wr) (fun vi _ => ns.length - (intOf vi).toNat)
  case atStart => exact ⟨0, by omega, rfl, hR, hb1⟩
  case round =>
    clear hR hb1
    obtain ⟨i, hi, rfl, hR, hb⟩ := hrel
    have hvl := valsTo_len ns.length i hi
    by_cases hlt : i < ns.length
    · obtain ⟨gb, cap, rfl, hge, hgl, cells, hcells⟩ := Kd.R_form hR (by omega)
      have hc := Kd.R_cell (0 : Int) hR (i : Int) (by omega) (by omega)
      have hput := Kd.R_put hR (i : Int) ((i : Int) + 10)
      rw [Int.toNat_natCast] at hc hput
      rw [valsTo_succ _ _ hlt] at hput
      rw [hvl] at hR hput ⊢
      obtain ⟨hc1, hc2⟩ := hc
      obtain ⟨hp1, hp2⟩ := hput
      have hB : Below w.heap.size w (wr.setCell ⟨gb, i, none⟩ (.int .i64 ((i : Int) + 10))) := hb.setCell (p := ⟨gb, i, none⟩) hge _
      clear hvl hR hp2 hcells
      go_wp2
      go_roundw
      case rel => exact ⟨i + 1, by omega, by go_num, hp1, hB⟩
      case measure => simp [intOf]; omega
    · obtain rfl : i = ns.length := by omega
      rw [valsTo_all] at hR
      obtain ⟨A1, c1, rfl, hl1, hC1⟩ := Kd.R_reads hR
      rw [vals_len] at hl1 ⊢
      go_wp2_with fail
      have hm := make_ok A0 A1 c0 c1 k ns (vals ns.length) wr (Kd.C_below h0 hb) hC1 hl0 (vals_len _) hn hr
      rw [vals_len] at hm
      refine hm.mono ?_
      rintro e w2 ⟨g, rfl, hD, hb2⟩
      go_wp2_with fail
      go_ret
      exact ⟨g, rfl, hD.lower hb.size, hb.trans (hb2.mono hb.size)⟩
end Go.Proofs.Ytlghcfhmfbdidaa
