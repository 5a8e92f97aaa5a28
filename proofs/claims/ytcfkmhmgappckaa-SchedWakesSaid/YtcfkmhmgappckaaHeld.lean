/- A task comes for a mutex that is held. No condition but on size. -/
import Derived.Test.YtcfkmhmgappckaaCome
import Derived.Outline
import Derived.Deep.RegionLaw
namespace Go.Proofs.Ytcfkmhmgappckaa
open Go.RowKit Go.Proofs.Ytcfkmhmgappckaa.Sc Go.Proofs.Ytcfkmhmgappckaa.PAll Go.Proofs.YtcfkmhmgappckaaW.PrintWords Go.Proofs.YtcfkmhmgappckaaW.PrintLast Go.Proofs.YtcfkmhmgappckaaW.PrintMore

theorem cell_new (w : World) (c : Array Value) (t : TypeId) (v : Value) (h : c[0]? = some v) : (w.drew.alloc (.cells c t (0, 0))).cell? ⟨w.heap.size, 0, none⟩ = some v := by
  have : (w.drew.alloc (.cells c t (0, 0))).heap[w.heap.size]? = some (.cells c t (0, 0)) := heap_alloc_new w.drew _
  unfold World.cell?
  simp only [this]
  exact h
set_option maxHeartbeats 1000000 in
set_option maxRecDepth 100000 in
theorem come_held {w : World} {base g bT bM bR : Nat} {vs us : List (Option Nat × Value)} {S : Sd} (h : IsS w base g bT bM bR vs us S) (hb : base ≤ w.heap.size) (t m : Nat) (ht : t < S.T.length) (hm : m < S.M.length) (hf : (S.M[m]).1 ≠ -1) (hl : (S.M[m]).2.length ≤ 1000) :
    Calls Try.prog 31 #[.pointer (some ⟨g, 0, none⟩), .int .i64 (t : Int), .int .i64 (m : Int)] w fun e w' => e = .returned (.bool false) ∧ ∃ ob ob' v', (∃ v0, vs[m]? = some (ob, v0)) ∧ (ob' = ob ∨ ∃ k, ob' = some k ∧ w.heap.size ≤ k) ∧ IsS w' base g bT bM bR (vs.set m (ob', v')) us (setT (setM S m ((S.M[m]).1, (S.M[m]).2 ++ [(t : Int)])) t 1) ∧
      ∀ F : Nat → Prop, (F bM ∧ F bT) → (∀ k, ob = some k → F k) → Moves F w w' := by
  obtain ⟨i0, hi, hz0, hz1, hz2⟩ := info_parts infoInt
  have d0 := h.c0
  have d1 := h.c1
  obtain ⟨d2, v, hv, d3⟩ := h.cM m hm
  have d4 := h.cT t ht
  have hR := h.rows m _ v (List.getElem?_eq_getElem hm) hv
  obtain ⟨ob, v0⟩ := v
  have d2' : w.cell? ⟨bM, m * 2, none⟩ = some (.int .i64 (S.M[m]).1) := by rw [Nat.mul_comm]; exact d2
  have d3' : w.cell? ⟨bM, m * 2 + 1, none⟩ = some v0 := by rw [Nat.mul_comm]; exact d3
  have g1 : ((m : Nat) : Int) < (S.M.length : Int) := by omega
  have g2 : ((t : Nat) : Int) < (S.T.length : Int) := by omega
  have hf2 : ((S.M[m]).1 == -1) = false := by simpa using hf
  obtain ⟨n1, n2, n3, n4, n5, n6⟩ := h.ne3
  have n4' : ¬ bM = bT := fun e => n4 e.symm
  have hmem : (ob, v0) ∈ vs ++ us := by have := List.mem_of_getElem? hv; simp [this]
  have hsz : (ints (S.M[m]).2).length = (S.M[m]).2.length := by simp [ints]
  have q1 := (World.cell?_alloc_some w _ (Obj.cells #[Value.int IntKind.i64 ↑t] 3 (0, 0)) (by rw [d0]; rfl)).trans d0
  have q2 := (World.cell?_alloc_some w _ (Obj.cells #[Value.int IntKind.i64 ↑t] 3 (0, 0)) (by rw [d3']; rfl)).trans d3'
  have HS := Lib.hid h
  have HV := Lib.hid hv
  clear h d2 d3 hv
  go_enter Try.func31, Try.ntmps31
  go_upto_region 5 with fail
  have hk1 : ∀ o : Obj, (w.drew.alloc o).heap.size = w.heap.size + 1 := fun o => by simp
  have hk2 : ∀ (o : Obj) k, k < w.heap.size → (w.drew.alloc o).heap[k]? = w.heap[k]? := fun o k hk => (Below.refl w.heap.size w.drew).alloc (Nat.le_refl _) o |>.block k hk
  have hW : ∀ o : Obj, IsS (w.drew.alloc o) base g bT bM bR vs us S := fun o => HS.out.kept (hk2 o)
  have hRW : ∀ o : Obj, RowIn (w.drew.alloc o) base 3 1 ob v0 (ints (S.M[m]).2) := fun o => (hW o).rows m _ _ (List.getElem?_eq_getElem hm) HV.out
  have hbW : ∀ o : Obj, base ≤ (w.drew.alloc o).heap.size := fun o => by rw [hk1]; omega
  have HW := Lib.hid hW
  have HRW := Lib.hid hRW
  have HBW := Lib.hid hbW
  have HK1 := Lib.hid hk1
  have HK2 := Lib.hid hk2
  clear hW hRW hbW hR hk1 hk2
  have hc0 : ∀ j u, [Value.int .i64 (t : Int)][j]? = some u → (w.drew.alloc (Obj.cells #[Value.int IntKind.i64 ↑t] 3 (0, 0))).cell? ((⟨w.heap.size, 0, none⟩ : Addr).add j) = some u := by
    intro j u hj
    cases j with
    | zero => simp at hj; subst hj; rw [Addr.add_lit]; exact cell_new _ _ _ _ rfl
    | succ j => simp at hj
  have hone : ∀ u ∈ [Value.int .i64 (t : Int)], u.oneCell' = true := by simp [Value.oneCell']
  have hb1 : (ints (S.M[m]).2).length + 1 ≤ maxLen := by unfold maxLen; omega
  have hb2 : ((ints (S.M[m]).2).length + 1) * 8 ≤ 140737488355328 := by omega
  have HC0 := Lib.hid hc0
  clear hc0
  have hF : ∀ (o : Obj) (w1 : World), (w.drew.alloc o).grownBy w1 ob → w1.cell? ⟨bM, m * 2 + 1, none⟩ = some v0 ∧ w1.frozen? ⟨bM, m * 2 + 1, none⟩ = false ∧ w1.cell? ⟨bT, t, none⟩ = some (.int .i64 S.T[t]) ∧ w1.frozen? ⟨bT, t, none⟩ = false ∧ w1.cell? ⟨g, 0, none⟩ = some (.slice (some ⟨bT, 0, none⟩) S.T.length S.T.length) := by
    intro o w1 hgr
    have hx : ∀ b, (b = g ∨ b = bT ∨ b = bM ∨ b = bR) → w1.heap[b]? = w.heap[b]? := fun b hb2 =>
      (hgr.block b (by rw [HK1.out]; exact Nat.lt_succ_of_lt (HS.out.blocks hb2).2) (fun e => HS.out.far hb2 _ hmem e.symm)).trans (HK2.out o b (HS.out.blocks hb2).2)
    refine ⟨?_, ?_, ?_, ?_, ?_⟩
    · rw [← d3']; unfold World.cell?; simp only [hx bM (by simp)]
    · unfold World.frozen?; simp only [hx bM (by simp), HS.out.M]; rfl
    · rw [← d4]; unfold World.cell?; simp only [hx bT (by simp)]
    · unfold World.frozen?; simp only [hx bT (by simp), HS.out.T]; rfl
    · rw [← d0]; unfold World.cell?; simp only [hx g (by simp)]
  have HF := Lib.hid hF
  clear hF
  go_region_law ((refine step_push rfl (.tmp 38) (.tmp 40) 22 rfl 3 i0 (.int .i64 0) 1 8 Try.underlying22 hi hz0 hz1 hz2 rfl (by decide) (HRW.out _) rfl ⟨w.heap.size, 0, none⟩ 1 [.int .i64 (t : Int)] rfl rfl HC0.out hone hb1 hb2 (HBW.out _) ?_; intro ob' A' n' c' w1 hR1 hgrow hob; obtain ⟨y1, y2, y3, y4, y5⟩ := HF.out _ _ hgrow))
  all_goals
    have h0 := HW.out (Obj.cells #[Value.int IntKind.i64 ↑t] 3 (0, 0))
    have hr : ints (S.M[m]).2 ++ [[Value.int .i64 (t : Int)]] = ints ((S.M[m]).2 ++ [(t : Int)]) := by simp [ints]
    rw [hr] at hR1
    have h1 := h0.setV m hm HV.out hgrow hR1 (.inr (hob.imp id (fun ⟨k, e1, e2⟩ => ⟨k, e1, e2⟩)))
    have h2 := h1.setT t (by simpa [Sc.setM] using ht) 1
    have hmv : ∀ F : Nat → Prop, (F bM ∧ F bT) → (∀ k, ob = some k → F k) → Moves F w ((w1.setCell ⟨bM, m * 2 + 1, none⟩ (.slice A' n' c')).setCell ⟨bT, t, none⟩ (.int .i64 1)) := fun F hF1 hF2 =>
      ((((Moves.refl F w).below ((Below.refl w.heap.size w).drew.alloc (Nat.le_refl _) (Obj.cells #[Value.int IntKind.i64 ↑t] 3 (0, 0)))).grown hgrow (fun k hk => .inl (hF2 k hk))).store _ _ hF1.1).store _ _ hF1.2
    have hob2 : ob' = ob ∨ ∃ k, ob' = some k ∧ w.heap.size ≤ k := hob.imp id (fun ⟨k, e1, e2⟩ => ⟨k, e1, Nat.le_of_succ_le (Nat.le_trans (Nat.le_of_eq (HK1.out _).symm) e2)⟩)
    have H2 := Lib.hid h2
    have HM := Lib.hid hmv
    have HO := Lib.hid hob2
    clear h0 h1 h2 hmv hob2 hob hR1 hgrow
    go_wp2_with fail
    go_ret
    exact ⟨rfl, _, _, _, ⟨_, HV.out⟩, HO.out, H2.out, HM.out⟩
end Go.Proofs.Ytcfkmhmgappckaa
