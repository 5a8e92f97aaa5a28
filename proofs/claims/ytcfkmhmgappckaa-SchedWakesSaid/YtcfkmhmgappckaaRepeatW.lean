/- slices.Repeat of one free mutex, walked. Condition: at most 1000. -/
import Derived.Test.YtcfkmhmgappckaaRepeat
import Derived.IntWalk
namespace Go.Proofs.Ytcfkmhmgappckaa
open Go.RowKit Go.Proofs.Ytcfkmhmgappckaa.Sc Go.Proofs.Ytcfkmhmgappckaa.PAll Go.Proofs.YtcfkmhmgappckaaW.PrintWords Go.Proofs.YtcfkmhmgappckaaW.PrintLast Go.Proofs.YtcfkmhmgappckaaW.PrintMore

def wpHeap (w : World) (g N k : Nat) : Prop := w.heap[g]? = some (.cells (reps N k).flatten.toArray 55 (0, 0))
set_option maxHeartbeats 1000000 in
set_option maxRecDepth 100000 in
theorem repeat_any (w : World) (bx N : Nat) (hN : N ≤ 1000) (c0 : w.cell? ⟨bx, 0, none⟩ = some (.int .i64 (-1))) (c1 : w.cell? ⟨bx, 1, none⟩ = some (.slice none 0 0)) :
    Calls Try.prog 27 #[.slice (some ⟨bx, 0, none⟩) 1 1, .int .i64 (N : Int)] w fun e w' => ∃ g, e = .returned (.slice (some ⟨g, 0, none⟩) N N) ∧ w.heap.size ≤ g ∧ w'.heap[g]? = some (.cells (reps N N).flatten.toArray 55 (0, 0)) ∧ Below w.heap.size w w' := by
  obtain ⟨i0, hi, hz0, hz1, hz2⟩ := info_parts infoMu
  have hmk : ∀ w : World, (Instr.makeSlice 52 (.int .i64 (N : Int)) (.int .i64 (N : Int))).run Try.prog w = .ok (.slice (some ⟨w.heap.size, 0, none⟩) N N) (w.alloc (.cells (reps N 0).flatten.toArray 55 (0, 0))) := by
    intro w
    have := run_make (P := Try.prog) w 52 55 i0 _ Try.underlying52 hi hz0 .i64 .i64 (N : Int) (N : Int) (by omega) (Int.le_refl _) (by rw [hz2]; omega) (by omega)
    rw [hz1, Int.toNat_natCast] at this
    rw [this, ← reps_made]
    rfl
  have hmul := mul_one N hN
  have HM := Lib.hid (bits_Mul.calls 1 (N : Int) 0 (N : Int) w hmul)
  clear hmul
  go_enter Try.func27, Try.ntmps27
  go_wp2_with fail
  refine HM.out.mono ?_
  rintro e w1 ⟨rfl, hd1⟩
  have hb1 := hd1.below
  have hcell : ∀ a, w1.cell? a = w.cell? a := by obtain ⟨n, rfl⟩ := hd1.out; intro a; simp
  have c0' : w1.cell? ⟨bx, 0, none⟩ = some (.int .i64 (-1)) := by rw [hcell]; exact c0
  have c1' : w1.cell? ⟨bx, 1, none⟩ = some (.slice none 0 0) := by rw [hcell]; exact c1
  have q0 := (World.cell?_alloc_some w1 _ (Obj.cells (reps N 0).flatten.toArray 55 (0, 0)) (by rw [c0']; rfl)).trans c0'
  have q1 := (World.cell?_alloc_some w1 _ (Obj.cells (reps N 0).flatten.toArray 55 (0, 0)) (by rw [c1']; rfl)).trans c1'
  have hsrc : ∀ j v, (frees (min 1 N))[j]? = some v → (w1.alloc (Obj.cells (reps N 0).flatten.toArray 55 (0, 0))).cell? ((⟨bx, 0, none⟩ : Addr).add j) = some v := by
    intro j v hv
    rw [Addr.add_lit, Nat.zero_add]
    have hm1 : min 1 N = 0 ∨ min 1 N = 1 := by omega
    rcases hm1 with e | e
    · rw [e] at hv; simp [frees] at hv
    · rw [e] at hv
      match j with
      | 0 => obtain rfl : Value.int .i64 (-1) = v := by simpa [frees] using hv
             exact q0
      | 1 => obtain rfl : Value.slice none 0 0 = v := by simpa [frees] using hv
             exact q1
      | j + 2 => simp [frees] at hv
  have hbA : Below w.heap.size w (w1.alloc (Obj.cells (reps N 0).flatten.toArray 55 (0, 0))) := below_alloc hb1 _
  have hge : w.heap.size ≤ w1.heap.size := hb1.size
  have hg0 : (w1.alloc (Obj.cells (reps N 0).flatten.toArray 55 (0, 0))).heap[w1.heap.size]? = some (.cells (reps N 0).flatten.toArray 55 (0, 0)) := heap_alloc_new w1 _
  have HSRC := Lib.hid hsrc
  have HBA := Lib.hid hbA
  have HG0 := Lib.hid hg0
  clear hsrc hbA hg0 hb1 hd1 hcell q0 q1 HM
  go_wp2_with (with_reducible refine wpList_copy_reps _ rfl (.tmp 31) (.tmp 32) rfl w1.heap.size 0 N N ⟨bx, 0, none⟩ 1 1 N 0 (min 1 N) rfl rfl rfl HG0.out rfl (by omega) HSRC.out w.heap.size w HBA.out hge ?_)
  intro w2 hg2 hb2
  clear HSRC HBA HG0
  go_wp2_with fail
  obtain ⟨g, hgg⟩ : ∃ g, g = w1.heap.size := ⟨_, rfl⟩
  rw [← hgg] at hge hg2 ⊢
  clear hgg
  have HG2 : wpHeap w2 g N (min 1 N) := hg2.out
  clear hg2
  go_loopw [8] (fun v wr => ∃ k : Nat, v = .int .i64 (k : Int) ∧ k ≤ N ∧ (0 < N → 0 < k) ∧ wpHeap wr g N k ∧ Below w.heap.size w wr) (fun v _ => N - (intOf v).toNat)
  case atStart => exact ⟨min 1 N, rfl, by omega, by omega, HG2, hb2⟩
  case round =>
    obtain ⟨k, rfl, hk, hk0, hH, hbw⟩ := hrel
    clear HG2 hb2
    by_cases hlt : k < N
    · have i1 : ((k : Nat) : Int) < (N : Int) := by omega
      have i2 : ((k : Nat) : Int) ≤ (N : Int) := by omega
      have hk1 := hk0 (by omega)
      have hnk : ¬ N = k := by omega
      have hbd : Below w.heap.size w wr.drew := hbw.drew
      have hgd : wr.drew.heap[g]? = some (.cells (reps N k).flatten.toArray 55 (0, 0)) := hH
      have HS := Lib.hid (reps_src wr.drew g N k (min k (N - k)) (by omega) hgd)
      have HGD := Lib.hid hgd
      have HBD := Lib.hid hbd
      have hkm : k + min k (N - k) ≤ N := by omega
      have hwr : IntKind.i64.wrap ((k : Int) + ((min k (N - k) : Nat) : Int)) = ((k + min k (N - k) : Nat) : Int) := by rw [IntWalk.i64_in _ (by omega)]; omega
      have HWR := Lib.hid hwr
      clear hgd hbd hH hk0 hwr
      go_wp2_with fail
      go_region_law ((refine step_copy_reps rfl (.tmp 41) (.tmp 44) rfl g (k * 2) (N - k) (N - k) ⟨g, 0, none⟩ k N N k (min k (N - k)) (by go_simp) (by go_simp) (Nat.mul_comm _ _) HGD.out rfl hkm HS.out w.heap.size w HBD.out hge ?_; intro w3 hg3 hb3))
      all_goals
        have HG3 : wpHeap w3 g N (k + min k (N - k)) := hg3.out
        clear hg3 HS HGD HBD
        go_simp
        rw [HWR.out]
        go_roundw
        case rel => exact ⟨_, _, _, _, _, _, _, _, _, _, _, _, _, _, ⟨k + min k (N - k), rfl, by omega, by omega, HG3, hb3⟩, rfl⟩
        case measure => simp [intOf]; omega
    · obtain rfl : k = N := by omega
      go_wp2
      go_ret
      exact ⟨g, rfl, hge, hH, hbw⟩
end Go.Proofs.Ytcfkmhmgappckaa
