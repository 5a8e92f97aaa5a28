/- Joined: New, Lives, Ask, AskB, Stuck, End, EndB, Wake, WakeW. -/
import Derived.Test.YtcfkmhmgappckaaBnd1
import Derived.Deep.RegionWith
import Derived.Outline
import Derived.Deep.RegionHeld3
import Derived.BigRegion
set_option linter.unusedVariables false
set_option linter.unusedSimpArgs false
/- A schedule is made. Condition: so many at most. -/
namespace Go.Proofs.Ytcfkmhmgappckaa
open Go.RowKit Go.Proofs.Ytcfkmhmgappckaa.Sc Go.Proofs.Ytcfkmhmgappckaa.PAll Go.Proofs.YtcfkmhmgappckaaW.PrintWords Go.Proofs.YtcfkmhmgappckaaW.PrintLast Go.Proofs.YtcfkmhmgappckaaW.PrintMore

theorem infoRests : (Try.prog.info? 65).map (fun i => (i.zero, i.size, i.bytes)) = some (some (.slice none 0 0), 1, 24) := by kernel_rfl
theorem made_one (v : Value) (n : Nat) : madeCells #[v] (n * 1) = (List.replicate n v).toArray := by
  apply Array.ext
  · simp [madeCells]
  · intro i h1 h2
    simp [madeCells, Nat.mod_one]
theorem gen_alloc {K : World → Prop} {W : World} {o : Obj} (h : ∀ w1, w1.heap[W.heap.size]? = some o → Below W.heap.size W w1 → W.heap.size < w1.heap.size → K w1) : K (W.alloc o) :=
  h _ (heap_alloc_new W o) (below_alloc (Below.refl _ _) o) (by simp)
theorem new_sch {w w' : World} (t m c : Nat) (g bT bM bR : Nat) (hb : Below w.heap.size w w') (hT : w'.heap[bT]? = some (.cells (List.replicate t (.int .i64 0)).toArray 3 (0, 0))) (hM : w'.heap[bM]? = some (.cells (reps m m).flatten.toArray 55 (0, 0)))
    (hR : w'.heap[bR]? = some (.cells (List.replicate c (.slice none 0 0)).toArray 65 (0, 0))) (hg : w'.heap[g]? = some (.cells #[.slice (some ⟨bT, 0, none⟩) t t, .slice (some ⟨bM, 0, none⟩) m m, .slice (some ⟨bR, 0, none⟩) c c] 58 (0, 0)))
    (gT : w.heap.size ≤ bT) (gM : w.heap.size ≤ bM) (gR : w.heap.size ≤ bR) (gg : w.heap.size ≤ g) (n1 : bT ≠ bM) (n2 : bT ≠ bR) (n3 : bM ≠ bR) (n4 : g ≠ bT) (n5 : g ≠ bM) (n6 : g ≠ bR) :
    Sch w' w.heap.size g (fun k => w.heap.size ≤ k ∧ k < w'.heap.size) (newS t m c) := by
  refine ⟨fun k hk => hk, bT, bM, bR, List.replicate m (none, .slice none 0 0), List.replicate c (none, .slice none 0 0), ⟨gg, ?_, gT, gM, gR, ?_, ?_, ?_, ?_, ?_, ?_, ?_, ?_⟩, ⟨gg, heap_lt hg⟩, ⟨gT, heap_lt hT⟩, ⟨gM, heap_lt hM⟩, ⟨gR, heap_lt hR⟩, ?_⟩
  · simpa [newS] using hg
  · simpa [newS] using hT
  · simp [newS]
  · rw [hM]
    congr 3
    simp only [reps, newS, Nat.sub_self, List.replicate_zero, List.append_nil, Int.toNat_natCast]
    congr 1
    apply List.ext_getElem
    · simp
    · intro i h1 h2; simp
  · intro i x v hx hv
    have e1 := List.eq_of_mem_replicate (List.mem_of_getElem? hx)
    have e2 := List.eq_of_mem_replicate (List.mem_of_getElem? hv)
    rw [e1, e2]
    exact ⟨fun d hd => by simp [ints] at hd, .inl ⟨rfl, rfl, rfl⟩⟩
  · simp [newS]
  · simpa [newS] using hR
  · intro i x v hx hv
    have e1 := List.eq_of_mem_replicate (List.mem_of_getElem? hx)
    have e2 := List.eq_of_mem_replicate (List.mem_of_getElem? hv)
    rw [e1, e2]
    exact ⟨fun d hd => by simp [pairs] at hd, .inl ⟨rfl, rfl, rfl⟩⟩
  · have hn : ∀ x ∈ (List.replicate m ((none : Option Nat), Value.slice none 0 0) ++ List.replicate c ((none : Option Nat), Value.slice none 0 0)).map (fun x : Option Nat × Value => x.1), x = none := by
      intro x hx
      obtain ⟨y, hy, rfl⟩ := List.mem_map.1 hx
      rcases List.mem_append.1 hy with h | h <;> rw [List.eq_of_mem_replicate h]
    refine List.pairwise_append.2 ⟨by simp; omega, ?_, fun a _ b hb => .inr (.inl (hn b hb))⟩
    rw [List.pairwise_iff_getElem]
    intro i j hi hj _
    exact .inl (hn _ (List.getElem_mem _))
  · intro x hx k hk
    rcases List.mem_append.1 hx with h | h <;> rw [List.eq_of_mem_replicate h] at hk <;> cases hk
set_option maxHeartbeats 4000000 in
set_option maxRecDepth 100000 in
theorem new_nat (w : World) (t m c : Int) (T M C : Nat) (hT : max t 0 = (T : Int)) (hM : max m 0 = (M : Int)) (hC : max c 0 = (C : Int)) (lT : T ≤ 1000) (lM : M ≤ 1000) (lC : C ≤ 1000) :
    Calls Try.prog 9 #[.int .i64 t, .int .i64 m, .int .i64 c] w fun e w' => ∃ g, e = .returned (.pointer (some ⟨g, 0, none⟩)) ∧ Sch w' w.heap.size g (fun k => w.heap.size ≤ k ∧ k < w'.heap.size) (newS T M C) ∧ Below w.heap.size w w' := by
  obtain ⟨i0, hi, hz0, hz1, hz2⟩ := info_parts infoInt
  obtain ⟨i1, hj, hy0, hy1, hy2⟩ := info_parts infoRests
  have hm1 : ∀ w : World, (Instr.makeSlice 22 (.int .i64 (max t 0)) (.int .i64 (max t 0))).run Try.prog w = .ok (.slice (some ⟨w.heap.size, 0, none⟩) T T) (w.alloc (.cells (List.replicate T (.int .i64 0)).toArray 3 (0, 0))) := by
    intro w
    have := run_make (P := Try.prog) w 22 3 i0 _ Try.underlying22 hi hz0 .i64 .i64 (T : Int) (T : Int) (by omega) (Int.le_refl _) (by rw [hz2]; omega) (by omega)
    rw [hz1, Int.toNat_natCast] at this
    rw [hT, this, ← made_one]
    rfl
  have hm2 : ∀ w : World, (Instr.makeSlice 56 (.int .i64 (max c 0)) (.int .i64 (max c 0))).run Try.prog w = .ok (.slice (some ⟨w.heap.size, 0, none⟩) C C) (w.alloc (.cells (List.replicate C (.slice none 0 0)).toArray 65 (0, 0))) := by
    intro w
    have := run_make (P := Try.prog) w 56 65 i1 _ Try.underlying56 hj hy0 .i64 .i64 (C : Int) (C : Int) (by omega) (Int.le_refl _) (by rw [hy2]; omega) (by omega)
    rw [hy1, Int.toNat_natCast] at this
    rw [hC, this, ← made_one]
    rfl
  have hrp : ∀ (w : World) (bx : Nat), w.cell? ⟨bx, 0, none⟩ = some (.int .i64 (-1)) → w.cell? ⟨bx, 1, none⟩ = some (.slice none 0 0) → Calls Try.prog 27 #[.slice (some ⟨bx, 0, none⟩) 1 1, .int .i64 (max m 0)] w fun e w' => ∃ g, e = .returned (.slice (some ⟨g, 0, none⟩) M M) ∧ w.heap.size ≤ g ∧ w'.heap[g]? = some (.cells (reps M M).flatten.toArray 55 (0, 0)) ∧ Below w.heap.size w w' := by
    intro w bx h1 h2
    rw [hM]
    exact repeat_any w bx M lM h1 h2
  have HRP := Lib.hid hrp
  clear hrp hT hM hC hi hj hz0 hz1 hz2 hy0 hy1 hy2
  go_enter Try.func9, Try.ntmps9
  go_wp2_with fail
  refine wp_region_any (by kernel_rfl) ?_
  change wpAny _ _ _ _ _ _ _ (World.drew _)
  obtain ⟨w0, hw0⟩ : ∃ w0, w0 = World.drew w := ⟨_, rfl⟩
  rw [← hw0]
  have k0 : Below w.heap.size w w0 := by rw [hw0]; exact below_drew (Below.refl _ _)
  clear hw0
  refine wpAny_take (i := 0) (v := .int .i64 t) rfl (by kernel_rfl) (by kernel_rfl) (by kernel_rfl) (fun _ _ _ h => h) (Or.inl ⟨by rfl, ?_⟩) ?_
  · intro w
    go_simp
  refine wpAny_take (i := 3) (v := .agg #[.int .i64 (-1), .slice none 0 0]) rfl (by kernel_rfl) (by kernel_rfl) (by kernel_rfl) (fun _ _ _ h => h) (Or.inl ⟨by rfl, ?_⟩) ?_
  · intro w
    go_simp
  refine wpAny_take (i := 5) (v := .int .i64 m) rfl (by kernel_rfl) (by kernel_rfl) (by kernel_rfl) (fun _ _ _ h => h) (Or.inl ⟨by rfl, ?_⟩) ?_
  · intro w
    go_simp
  refine wpAny_take (i := 8) (v := .int .i64 c) rfl (by kernel_rfl) (by kernel_rfl) (by kernel_rfl) (fun _ _ _ h => h) (Or.inl ⟨by rfl, ?_⟩) ?_
  · intro w
    go_simp
  refine wpAny_take (i := 1) (v := .int .i64 (max t 0)) rfl (by kernel_rfl) (by kernel_rfl) (by kernel_rfl) (fun _ _ _ h => h) (Or.inl ⟨by rfl, ?_⟩) ?_
  · intro w
    go_simp
  refine wpAny_take (i := 6) (v := .int .i64 (max m 0)) rfl (by kernel_rfl) (by kernel_rfl) (by kernel_rfl) (fun _ _ _ h => h) (Or.inl ⟨by rfl, ?_⟩) ?_
  · intro w
    go_simp
  refine wpAny_take (i := 9) (v := .int .i64 (max c 0)) rfl (by kernel_rfl) (by kernel_rfl) (by kernel_rfl) (fun _ _ _ h => h) (Or.inl ⟨by rfl, ?_⟩) ?_
  · intro w
    go_simp
  refine wpAny_ready (rs := [2, 4, 10]) (by kernel_rfl) (by simp) ?_
  refine AllReady.cons rfl (fun K hK => ?_) ?_
  · go_simp
    refine hK _ _ ?_
    clear hK K
    refine gen_alloc (K := fun w => wpAny _ _ _ _ _ _ _ w) ?_
    intro w1 c1 k1 s1
    refine wpAny_ready (rs := [4, 10]) (by kernel_rfl) (by simp) ?_
    refine AllReady.cons rfl (fun K hK => ?_) ?_
    · go_simp
      refine hK _ _ ?_
      clear hK K
      refine gen_alloc (K := fun w => wpAny _ _ _ _ _ _ _ w) ?_
      intro w2 c2 k2 s2
      refine wpAny_ready (rs := [7, 10]) (by kernel_rfl) (by simp) ?_
      refine AllReady.cons rfl (fun K hK => ?_) ?_
      · have HC := Lib.hid (HRP.out w2 w1.heap.size (by unfold World.cell?; simp only [c2]; rfl) (by unfold World.cell?; simp only [c2]; rfl))
        go_simp
        refine HC.out.mono ?_
        clear HC
        rintro e w3 ⟨gM, rfl, q3, c3, k3⟩
        have s3 := heap_lt c3
        go_simp
        refine hK _ _ ?_
        clear hK K
        refine wpAny_ready (rs := [10]) (by kernel_rfl) (by simp) ?_
        refine AllReady.cons rfl (fun K hK => ?_) ?_
        · go_simp
          refine hK _ _ ?_
          clear hK K
          refine gen_alloc (K := fun w => wpAny _ _ _ _ _ _ _ w) ?_
          intro w4 c4 k4 s4
          refine wpAny_take (i := 11) (v := .agg #[.slice (some ⟨w0.heap.size, 0, none⟩) T T, .slice (some ⟨gM, 0, none⟩) M M, .slice (some ⟨w3.heap.size, 0, none⟩) C C]) rfl (by kernel_rfl) (by kernel_rfl) (by kernel_rfl) (fun _ _ _ h => h) (Or.inl ⟨by rfl, ?_⟩) ?_
          · intro w
            go_simp
          refine wpAny_ready (rs := [12]) (by kernel_rfl) (by simp) ?_
          refine AllReady.cons rfl (fun K hK => ?_) AllReady.nil
          go_simp
          refine hK _ _ ?_
          clear hK K
          refine gen_alloc (K := fun w => wpAny _ _ _ _ _ _ _ w) ?_
          intro w5 c5 k5 s5
          refine wpAny_take (i := 13) (v := .pointer (some ⟨w4.heap.size, 0, none⟩)) rfl (by kernel_rfl) (by kernel_rfl) (by kernel_rfl) (fun _ _ _ h => h) (Or.inl ⟨by rfl, ?_⟩) ?_
          · intro w
            go_simp
          refine wpAny_done (by kernel_rfl) ?_ _
          have F1 := Lib.hid (((Below.up (Below.up (Below.up k2 k3) k4) k5).block _ s1).trans c1)
          have F2 := Lib.hid (((Below.up k4 k5).block _ s3).trans c3)
          have F3 := Lib.hid ((k5.block _ s4).trans c4)
          have F4 := Lib.hid c5
          have F5 : Below w.heap.size w w5 := (Below.up k0 (Below.up (Below.up (Below.up (Below.up k1 k2) k3) k4) k5))
          have y0 := k0.size
          have y1 := k1.size
          have y2 := k2.size
          have y3 := k3.size
          have y4 := k4.size
          have y5 := k5.size
          clear c1 c2 c3 c4 c5 hm1 hm2
          go_wp2_with fail
          go_ret
          exact ⟨_, rfl, new_sch T M C w4.heap.size w0.heap.size gM w3.heap.size F5 F1.out F2.out F3.out F4.out (by omega) (by omega) (by omega) (by omega) (by omega) (by omega) (by omega) (by omega) (by omega) (by omega), F5⟩
        exact AllReady.nil
      refine AllReady.cons rfl (fun K hK => ?_) ?_
      · go_simp
        refine hK _ _ ?_
        clear hK K
        refine gen_alloc (K := fun w => wpAny _ _ _ _ _ _ _ w) ?_
        intro w3 c3 k3 s3
        refine wpAny_ready (rs := [7]) (by kernel_rfl) (by simp) ?_
        refine AllReady.cons rfl (fun K hK => ?_) ?_
        · have HC := Lib.hid (HRP.out w3 w1.heap.size (by unfold World.cell?; simp only [((k3.block _ s2).trans c2)]; rfl) (by unfold World.cell?; simp only [((k3.block _ s2).trans c2)]; rfl))
          go_simp
          refine HC.out.mono ?_
          clear HC
          rintro e w4 ⟨gM, rfl, q4, c4, k4⟩
          have s4 := heap_lt c4
          go_simp
          refine hK _ _ ?_
          clear hK K
          refine wpAny_take (i := 11) (v := .agg #[.slice (some ⟨w0.heap.size, 0, none⟩) T T, .slice (some ⟨gM, 0, none⟩) M M, .slice (some ⟨w2.heap.size, 0, none⟩) C C]) rfl (by kernel_rfl) (by kernel_rfl) (by kernel_rfl) (fun _ _ _ h => h) (Or.inl ⟨by rfl, ?_⟩) ?_
          · intro w
            go_simp
          refine wpAny_ready (rs := [12]) (by kernel_rfl) (by simp) ?_
          refine AllReady.cons rfl (fun K hK => ?_) AllReady.nil
          go_simp
          refine hK _ _ ?_
          clear hK K
          refine gen_alloc (K := fun w => wpAny _ _ _ _ _ _ _ w) ?_
          intro w5 c5 k5 s5
          refine wpAny_take (i := 13) (v := .pointer (some ⟨w4.heap.size, 0, none⟩)) rfl (by kernel_rfl) (by kernel_rfl) (by kernel_rfl) (fun _ _ _ h => h) (Or.inl ⟨by rfl, ?_⟩) ?_
          · intro w
            go_simp
          refine wpAny_done (by kernel_rfl) ?_ _
          have F1 := Lib.hid (((Below.up (Below.up (Below.up k2 k3) k4) k5).block _ s1).trans c1)
          have F2 := Lib.hid ((k5.block _ s4).trans c4)
          have F3 := Lib.hid (((Below.up k4 k5).block _ s3).trans c3)
          have F4 := Lib.hid c5
          have F5 : Below w.heap.size w w5 := (Below.up k0 (Below.up (Below.up (Below.up (Below.up k1 k2) k3) k4) k5))
          have y0 := k0.size
          have y1 := k1.size
          have y2 := k2.size
          have y3 := k3.size
          have y4 := k4.size
          have y5 := k5.size
          clear c1 c2 c3 c4 c5 hm1 hm2
          go_wp2_with fail
          go_ret
          exact ⟨_, rfl, new_sch T M C w4.heap.size w0.heap.size gM w2.heap.size F5 F1.out F2.out F3.out F4.out (by omega) (by omega) (by omega) (by omega) (by omega) (by omega) (by omega) (by omega) (by omega) (by omega), F5⟩
        exact AllReady.nil
      exact AllReady.nil
    refine AllReady.cons rfl (fun K hK => ?_) ?_
    · go_simp
      refine hK _ _ ?_
      clear hK K
      refine gen_alloc (K := fun w => wpAny _ _ _ _ _ _ _ w) ?_
      intro w2 c2 k2 s2
      refine wpAny_ready (rs := [4]) (by kernel_rfl) (by simp) ?_
      refine AllReady.cons rfl (fun K hK => ?_) ?_
      · go_simp
        refine hK _ _ ?_
        clear hK K
        refine gen_alloc (K := fun w => wpAny _ _ _ _ _ _ _ w) ?_
        intro w3 c3 k3 s3
        refine wpAny_ready (rs := [7]) (by kernel_rfl) (by simp) ?_
        refine AllReady.cons rfl (fun K hK => ?_) ?_
        · have HC := Lib.hid (HRP.out w3 w2.heap.size (by unfold World.cell?; simp only [c3]; rfl) (by unfold World.cell?; simp only [c3]; rfl))
          go_simp
          refine HC.out.mono ?_
          clear HC
          rintro e w4 ⟨gM, rfl, q4, c4, k4⟩
          have s4 := heap_lt c4
          go_simp
          refine hK _ _ ?_
          clear hK K
          refine wpAny_take (i := 11) (v := .agg #[.slice (some ⟨w0.heap.size, 0, none⟩) T T, .slice (some ⟨gM, 0, none⟩) M M, .slice (some ⟨w1.heap.size, 0, none⟩) C C]) rfl (by kernel_rfl) (by kernel_rfl) (by kernel_rfl) (fun _ _ _ h => h) (Or.inl ⟨by rfl, ?_⟩) ?_
          · intro w
            go_simp
          refine wpAny_ready (rs := [12]) (by kernel_rfl) (by simp) ?_
          refine AllReady.cons rfl (fun K hK => ?_) AllReady.nil
          go_simp
          refine hK _ _ ?_
          clear hK K
          refine gen_alloc (K := fun w => wpAny _ _ _ _ _ _ _ w) ?_
          intro w5 c5 k5 s5
          refine wpAny_take (i := 13) (v := .pointer (some ⟨w4.heap.size, 0, none⟩)) rfl (by kernel_rfl) (by kernel_rfl) (by kernel_rfl) (fun _ _ _ h => h) (Or.inl ⟨by rfl, ?_⟩) ?_
          · intro w
            go_simp
          refine wpAny_done (by kernel_rfl) ?_ _
          have F1 := Lib.hid (((Below.up (Below.up (Below.up k2 k3) k4) k5).block _ s1).trans c1)
          have F2 := Lib.hid ((k5.block _ s4).trans c4)
          have F3 := Lib.hid (((Below.up (Below.up k3 k4) k5).block _ s2).trans c2)
          have F4 := Lib.hid c5
          have F5 : Below w.heap.size w w5 := (Below.up k0 (Below.up (Below.up (Below.up (Below.up k1 k2) k3) k4) k5))
          have y0 := k0.size
          have y1 := k1.size
          have y2 := k2.size
          have y3 := k3.size
          have y4 := k4.size
          have y5 := k5.size
          clear c1 c2 c3 c4 c5 hm1 hm2
          go_wp2_with fail
          go_ret
          exact ⟨_, rfl, new_sch T M C w4.heap.size w0.heap.size gM w1.heap.size F5 F1.out F2.out F3.out F4.out (by omega) (by omega) (by omega) (by omega) (by omega) (by omega) (by omega) (by omega) (by omega) (by omega), F5⟩
        exact AllReady.nil
      exact AllReady.nil
    exact AllReady.nil
  refine AllReady.cons rfl (fun K hK => ?_) ?_
  · go_simp
    refine hK _ _ ?_
    clear hK K
    refine gen_alloc (K := fun w => wpAny _ _ _ _ _ _ _ w) ?_
    intro w1 c1 k1 s1
    refine wpAny_ready (rs := [2, 7, 10]) (by kernel_rfl) (by simp) ?_
    refine AllReady.cons rfl (fun K hK => ?_) ?_
    · go_simp
      refine hK _ _ ?_
      clear hK K
      refine gen_alloc (K := fun w => wpAny _ _ _ _ _ _ _ w) ?_
      intro w2 c2 k2 s2
      refine wpAny_ready (rs := [7, 10]) (by kernel_rfl) (by simp) ?_
      refine AllReady.cons rfl (fun K hK => ?_) ?_
      · have HC := Lib.hid (HRP.out w2 w0.heap.size (by unfold World.cell?; simp only [((k2.block _ s1).trans c1)]; rfl) (by unfold World.cell?; simp only [((k2.block _ s1).trans c1)]; rfl))
        go_simp
        refine HC.out.mono ?_
        clear HC
        rintro e w3 ⟨gM, rfl, q3, c3, k3⟩
        have s3 := heap_lt c3
        go_simp
        refine hK _ _ ?_
        clear hK K
        refine wpAny_ready (rs := [10]) (by kernel_rfl) (by simp) ?_
        refine AllReady.cons rfl (fun K hK => ?_) ?_
        · go_simp
          refine hK _ _ ?_
          clear hK K
          refine gen_alloc (K := fun w => wpAny _ _ _ _ _ _ _ w) ?_
          intro w4 c4 k4 s4
          refine wpAny_take (i := 11) (v := .agg #[.slice (some ⟨w1.heap.size, 0, none⟩) T T, .slice (some ⟨gM, 0, none⟩) M M, .slice (some ⟨w3.heap.size, 0, none⟩) C C]) rfl (by kernel_rfl) (by kernel_rfl) (by kernel_rfl) (fun _ _ _ h => h) (Or.inl ⟨by rfl, ?_⟩) ?_
          · intro w
            go_simp
          refine wpAny_ready (rs := [12]) (by kernel_rfl) (by simp) ?_
          refine AllReady.cons rfl (fun K hK => ?_) AllReady.nil
          go_simp
          refine hK _ _ ?_
          clear hK K
          refine gen_alloc (K := fun w => wpAny _ _ _ _ _ _ _ w) ?_
          intro w5 c5 k5 s5
          refine wpAny_take (i := 13) (v := .pointer (some ⟨w4.heap.size, 0, none⟩)) rfl (by kernel_rfl) (by kernel_rfl) (by kernel_rfl) (fun _ _ _ h => h) (Or.inl ⟨by rfl, ?_⟩) ?_
          · intro w
            go_simp
          refine wpAny_done (by kernel_rfl) ?_ _
          have F1 := Lib.hid (((Below.up (Below.up k3 k4) k5).block _ s2).trans c2)
          have F2 := Lib.hid (((Below.up k4 k5).block _ s3).trans c3)
          have F3 := Lib.hid ((k5.block _ s4).trans c4)
          have F4 := Lib.hid c5
          have F5 : Below w.heap.size w w5 := (Below.up k0 (Below.up (Below.up (Below.up (Below.up k1 k2) k3) k4) k5))
          have y0 := k0.size
          have y1 := k1.size
          have y2 := k2.size
          have y3 := k3.size
          have y4 := k4.size
          have y5 := k5.size
          clear c1 c2 c3 c4 c5 hm1 hm2
          go_wp2_with fail
          go_ret
          exact ⟨_, rfl, new_sch T M C w4.heap.size w1.heap.size gM w3.heap.size F5 F1.out F2.out F3.out F4.out (by omega) (by omega) (by omega) (by omega) (by omega) (by omega) (by omega) (by omega) (by omega) (by omega), F5⟩
        exact AllReady.nil
      refine AllReady.cons rfl (fun K hK => ?_) ?_
      · go_simp
        refine hK _ _ ?_
        clear hK K
        refine gen_alloc (K := fun w => wpAny _ _ _ _ _ _ _ w) ?_
        intro w3 c3 k3 s3
        refine wpAny_ready (rs := [7]) (by kernel_rfl) (by simp) ?_
        refine AllReady.cons rfl (fun K hK => ?_) ?_
        · have HC := Lib.hid (HRP.out w3 w0.heap.size (by unfold World.cell?; simp only [(((Below.up k2 k3).block _ s1).trans c1)]; rfl) (by unfold World.cell?; simp only [(((Below.up k2 k3).block _ s1).trans c1)]; rfl))
          go_simp
          refine HC.out.mono ?_
          clear HC
          rintro e w4 ⟨gM, rfl, q4, c4, k4⟩
          have s4 := heap_lt c4
          go_simp
          refine hK _ _ ?_
          clear hK K
          refine wpAny_take (i := 11) (v := .agg #[.slice (some ⟨w1.heap.size, 0, none⟩) T T, .slice (some ⟨gM, 0, none⟩) M M, .slice (some ⟨w2.heap.size, 0, none⟩) C C]) rfl (by kernel_rfl) (by kernel_rfl) (by kernel_rfl) (fun _ _ _ h => h) (Or.inl ⟨by rfl, ?_⟩) ?_
          · intro w
            go_simp
          refine wpAny_ready (rs := [12]) (by kernel_rfl) (by simp) ?_
          refine AllReady.cons rfl (fun K hK => ?_) AllReady.nil
          go_simp
          refine hK _ _ ?_
          clear hK K
          refine gen_alloc (K := fun w => wpAny _ _ _ _ _ _ _ w) ?_
          intro w5 c5 k5 s5
          refine wpAny_take (i := 13) (v := .pointer (some ⟨w4.heap.size, 0, none⟩)) rfl (by kernel_rfl) (by kernel_rfl) (by kernel_rfl) (fun _ _ _ h => h) (Or.inl ⟨by rfl, ?_⟩) ?_
          · intro w
            go_simp
          refine wpAny_done (by kernel_rfl) ?_ _
          have F1 := Lib.hid (((Below.up (Below.up k3 k4) k5).block _ s2).trans c2)
          have F2 := Lib.hid ((k5.block _ s4).trans c4)
          have F3 := Lib.hid (((Below.up k4 k5).block _ s3).trans c3)
          have F4 := Lib.hid c5
          have F5 : Below w.heap.size w w5 := (Below.up k0 (Below.up (Below.up (Below.up (Below.up k1 k2) k3) k4) k5))
          have y0 := k0.size
          have y1 := k1.size
          have y2 := k2.size
          have y3 := k3.size
          have y4 := k4.size
          have y5 := k5.size
          clear c1 c2 c3 c4 c5 hm1 hm2
          go_wp2_with fail
          go_ret
          exact ⟨_, rfl, new_sch T M C w4.heap.size w1.heap.size gM w2.heap.size F5 F1.out F2.out F3.out F4.out (by omega) (by omega) (by omega) (by omega) (by omega) (by omega) (by omega) (by omega) (by omega) (by omega), F5⟩
        exact AllReady.nil
      exact AllReady.nil
    refine AllReady.cons rfl (fun K hK => ?_) ?_
    · have HC := Lib.hid (HRP.out w1 w0.heap.size (by unfold World.cell?; simp only [c1]; rfl) (by unfold World.cell?; simp only [c1]; rfl))
      go_simp
      refine HC.out.mono ?_
      clear HC
      rintro e w2 ⟨gM, rfl, q2, c2, k2⟩
      have s2 := heap_lt c2
      go_simp
      refine hK _ _ ?_
      clear hK K
      refine wpAny_ready (rs := [2, 10]) (by kernel_rfl) (by simp) ?_
      refine AllReady.cons rfl (fun K hK => ?_) ?_
      · go_simp
        refine hK _ _ ?_
        clear hK K
        refine gen_alloc (K := fun w => wpAny _ _ _ _ _ _ _ w) ?_
        intro w3 c3 k3 s3
        refine wpAny_ready (rs := [10]) (by kernel_rfl) (by simp) ?_
        refine AllReady.cons rfl (fun K hK => ?_) ?_
        · go_simp
          refine hK _ _ ?_
          clear hK K
          refine gen_alloc (K := fun w => wpAny _ _ _ _ _ _ _ w) ?_
          intro w4 c4 k4 s4
          refine wpAny_take (i := 11) (v := .agg #[.slice (some ⟨w2.heap.size, 0, none⟩) T T, .slice (some ⟨gM, 0, none⟩) M M, .slice (some ⟨w3.heap.size, 0, none⟩) C C]) rfl (by kernel_rfl) (by kernel_rfl) (by kernel_rfl) (fun _ _ _ h => h) (Or.inl ⟨by rfl, ?_⟩) ?_
          · intro w
            go_simp
          refine wpAny_ready (rs := [12]) (by kernel_rfl) (by simp) ?_
          refine AllReady.cons rfl (fun K hK => ?_) AllReady.nil
          go_simp
          refine hK _ _ ?_
          clear hK K
          refine gen_alloc (K := fun w => wpAny _ _ _ _ _ _ _ w) ?_
          intro w5 c5 k5 s5
          refine wpAny_take (i := 13) (v := .pointer (some ⟨w4.heap.size, 0, none⟩)) rfl (by kernel_rfl) (by kernel_rfl) (by kernel_rfl) (fun _ _ _ h => h) (Or.inl ⟨by rfl, ?_⟩) ?_
          · intro w
            go_simp
          refine wpAny_done (by kernel_rfl) ?_ _
          have F1 := Lib.hid (((Below.up k4 k5).block _ s3).trans c3)
          have F2 := Lib.hid (((Below.up (Below.up k3 k4) k5).block _ s2).trans c2)
          have F3 := Lib.hid ((k5.block _ s4).trans c4)
          have F4 := Lib.hid c5
          have F5 : Below w.heap.size w w5 := (Below.up k0 (Below.up (Below.up (Below.up (Below.up k1 k2) k3) k4) k5))
          have y0 := k0.size
          have y1 := k1.size
          have y2 := k2.size
          have y3 := k3.size
          have y4 := k4.size
          have y5 := k5.size
          clear c1 c2 c3 c4 c5 hm1 hm2
          go_wp2_with fail
          go_ret
          exact ⟨_, rfl, new_sch T M C w4.heap.size w2.heap.size gM w3.heap.size F5 F1.out F2.out F3.out F4.out (by omega) (by omega) (by omega) (by omega) (by omega) (by omega) (by omega) (by omega) (by omega) (by omega), F5⟩
        exact AllReady.nil
      refine AllReady.cons rfl (fun K hK => ?_) ?_
      · go_simp
        refine hK _ _ ?_
        clear hK K
        refine gen_alloc (K := fun w => wpAny _ _ _ _ _ _ _ w) ?_
        intro w3 c3 k3 s3
        refine wpAny_ready (rs := [2]) (by kernel_rfl) (by simp) ?_
        refine AllReady.cons rfl (fun K hK => ?_) ?_
        · go_simp
          refine hK _ _ ?_
          clear hK K
          refine gen_alloc (K := fun w => wpAny _ _ _ _ _ _ _ w) ?_
          intro w4 c4 k4 s4
          refine wpAny_take (i := 11) (v := .agg #[.slice (some ⟨w3.heap.size, 0, none⟩) T T, .slice (some ⟨gM, 0, none⟩) M M, .slice (some ⟨w2.heap.size, 0, none⟩) C C]) rfl (by kernel_rfl) (by kernel_rfl) (by kernel_rfl) (fun _ _ _ h => h) (Or.inl ⟨by rfl, ?_⟩) ?_
          · intro w
            go_simp
          refine wpAny_ready (rs := [12]) (by kernel_rfl) (by simp) ?_
          refine AllReady.cons rfl (fun K hK => ?_) AllReady.nil
          go_simp
          refine hK _ _ ?_
          clear hK K
          refine gen_alloc (K := fun w => wpAny _ _ _ _ _ _ _ w) ?_
          intro w5 c5 k5 s5
          refine wpAny_take (i := 13) (v := .pointer (some ⟨w4.heap.size, 0, none⟩)) rfl (by kernel_rfl) (by kernel_rfl) (by kernel_rfl) (fun _ _ _ h => h) (Or.inl ⟨by rfl, ?_⟩) ?_
          · intro w
            go_simp
          refine wpAny_done (by kernel_rfl) ?_ _
          have F1 := Lib.hid ((k5.block _ s4).trans c4)
          have F2 := Lib.hid (((Below.up (Below.up k3 k4) k5).block _ s2).trans c2)
          have F3 := Lib.hid (((Below.up k4 k5).block _ s3).trans c3)
          have F4 := Lib.hid c5
          have F5 : Below w.heap.size w w5 := (Below.up k0 (Below.up (Below.up (Below.up (Below.up k1 k2) k3) k4) k5))
          have y0 := k0.size
          have y1 := k1.size
          have y2 := k2.size
          have y3 := k3.size
          have y4 := k4.size
          have y5 := k5.size
          clear c1 c2 c3 c4 c5 hm1 hm2
          go_wp2_with fail
          go_ret
          exact ⟨_, rfl, new_sch T M C w4.heap.size w3.heap.size gM w2.heap.size F5 F1.out F2.out F3.out F4.out (by omega) (by omega) (by omega) (by omega) (by omega) (by omega) (by omega) (by omega) (by omega) (by omega), F5⟩
        exact AllReady.nil
      exact AllReady.nil
    refine AllReady.cons rfl (fun K hK => ?_) ?_
    · go_simp
      refine hK _ _ ?_
      clear hK K
      refine gen_alloc (K := fun w => wpAny _ _ _ _ _ _ _ w) ?_
      intro w2 c2 k2 s2
      refine wpAny_ready (rs := [2, 7]) (by kernel_rfl) (by simp) ?_
      refine AllReady.cons rfl (fun K hK => ?_) ?_
      · go_simp
        refine hK _ _ ?_
        clear hK K
        refine gen_alloc (K := fun w => wpAny _ _ _ _ _ _ _ w) ?_
        intro w3 c3 k3 s3
        refine wpAny_ready (rs := [7]) (by kernel_rfl) (by simp) ?_
        refine AllReady.cons rfl (fun K hK => ?_) ?_
        · have HC := Lib.hid (HRP.out w3 w0.heap.size (by unfold World.cell?; simp only [(((Below.up k2 k3).block _ s1).trans c1)]; rfl) (by unfold World.cell?; simp only [(((Below.up k2 k3).block _ s1).trans c1)]; rfl))
          go_simp
          refine HC.out.mono ?_
          clear HC
          rintro e w4 ⟨gM, rfl, q4, c4, k4⟩
          have s4 := heap_lt c4
          go_simp
          refine hK _ _ ?_
          clear hK K
          refine wpAny_take (i := 11) (v := .agg #[.slice (some ⟨w2.heap.size, 0, none⟩) T T, .slice (some ⟨gM, 0, none⟩) M M, .slice (some ⟨w1.heap.size, 0, none⟩) C C]) rfl (by kernel_rfl) (by kernel_rfl) (by kernel_rfl) (fun _ _ _ h => h) (Or.inl ⟨by rfl, ?_⟩) ?_
          · intro w
            go_simp
          refine wpAny_ready (rs := [12]) (by kernel_rfl) (by simp) ?_
          refine AllReady.cons rfl (fun K hK => ?_) AllReady.nil
          go_simp
          refine hK _ _ ?_
          clear hK K
          refine gen_alloc (K := fun w => wpAny _ _ _ _ _ _ _ w) ?_
          intro w5 c5 k5 s5
          refine wpAny_take (i := 13) (v := .pointer (some ⟨w4.heap.size, 0, none⟩)) rfl (by kernel_rfl) (by kernel_rfl) (by kernel_rfl) (fun _ _ _ h => h) (Or.inl ⟨by rfl, ?_⟩) ?_
          · intro w
            go_simp
          refine wpAny_done (by kernel_rfl) ?_ _
          have F1 := Lib.hid (((Below.up k4 k5).block _ s3).trans c3)
          have F2 := Lib.hid ((k5.block _ s4).trans c4)
          have F3 := Lib.hid (((Below.up (Below.up k3 k4) k5).block _ s2).trans c2)
          have F4 := Lib.hid c5
          have F5 : Below w.heap.size w w5 := (Below.up k0 (Below.up (Below.up (Below.up (Below.up k1 k2) k3) k4) k5))
          have y0 := k0.size
          have y1 := k1.size
          have y2 := k2.size
          have y3 := k3.size
          have y4 := k4.size
          have y5 := k5.size
          clear c1 c2 c3 c4 c5 hm1 hm2
          go_wp2_with fail
          go_ret
          exact ⟨_, rfl, new_sch T M C w4.heap.size w2.heap.size gM w1.heap.size F5 F1.out F2.out F3.out F4.out (by omega) (by omega) (by omega) (by omega) (by omega) (by omega) (by omega) (by omega) (by omega) (by omega), F5⟩
        exact AllReady.nil
      refine AllReady.cons rfl (fun K hK => ?_) ?_
      · have HC := Lib.hid (HRP.out w2 w0.heap.size (by unfold World.cell?; simp only [((k2.block _ s1).trans c1)]; rfl) (by unfold World.cell?; simp only [((k2.block _ s1).trans c1)]; rfl))
        go_simp
        refine HC.out.mono ?_
        clear HC
        rintro e w3 ⟨gM, rfl, q3, c3, k3⟩
        have s3 := heap_lt c3
        go_simp
        refine hK _ _ ?_
        clear hK K
        refine wpAny_ready (rs := [2]) (by kernel_rfl) (by simp) ?_
        refine AllReady.cons rfl (fun K hK => ?_) ?_
        · go_simp
          refine hK _ _ ?_
          clear hK K
          refine gen_alloc (K := fun w => wpAny _ _ _ _ _ _ _ w) ?_
          intro w4 c4 k4 s4
          refine wpAny_take (i := 11) (v := .agg #[.slice (some ⟨w3.heap.size, 0, none⟩) T T, .slice (some ⟨gM, 0, none⟩) M M, .slice (some ⟨w1.heap.size, 0, none⟩) C C]) rfl (by kernel_rfl) (by kernel_rfl) (by kernel_rfl) (fun _ _ _ h => h) (Or.inl ⟨by rfl, ?_⟩) ?_
          · intro w
            go_simp
          refine wpAny_ready (rs := [12]) (by kernel_rfl) (by simp) ?_
          refine AllReady.cons rfl (fun K hK => ?_) AllReady.nil
          go_simp
          refine hK _ _ ?_
          clear hK K
          refine gen_alloc (K := fun w => wpAny _ _ _ _ _ _ _ w) ?_
          intro w5 c5 k5 s5
          refine wpAny_take (i := 13) (v := .pointer (some ⟨w4.heap.size, 0, none⟩)) rfl (by kernel_rfl) (by kernel_rfl) (by kernel_rfl) (fun _ _ _ h => h) (Or.inl ⟨by rfl, ?_⟩) ?_
          · intro w
            go_simp
          refine wpAny_done (by kernel_rfl) ?_ _
          have F1 := Lib.hid ((k5.block _ s4).trans c4)
          have F2 := Lib.hid (((Below.up k4 k5).block _ s3).trans c3)
          have F3 := Lib.hid (((Below.up (Below.up k3 k4) k5).block _ s2).trans c2)
          have F4 := Lib.hid c5
          have F5 : Below w.heap.size w w5 := (Below.up k0 (Below.up (Below.up (Below.up (Below.up k1 k2) k3) k4) k5))
          have y0 := k0.size
          have y1 := k1.size
          have y2 := k2.size
          have y3 := k3.size
          have y4 := k4.size
          have y5 := k5.size
          clear c1 c2 c3 c4 c5 hm1 hm2
          go_wp2_with fail
          go_ret
          exact ⟨_, rfl, new_sch T M C w4.heap.size w3.heap.size gM w1.heap.size F5 F1.out F2.out F3.out F4.out (by omega) (by omega) (by omega) (by omega) (by omega) (by omega) (by omega) (by omega) (by omega) (by omega), F5⟩
        exact AllReady.nil
      exact AllReady.nil
    exact AllReady.nil
  refine AllReady.cons rfl (fun K hK => ?_) ?_
  · go_simp
    refine hK _ _ ?_
    clear hK K
    refine gen_alloc (K := fun w => wpAny _ _ _ _ _ _ _ w) ?_
    intro w1 c1 k1 s1
    refine wpAny_ready (rs := [2, 4]) (by kernel_rfl) (by simp) ?_
    refine AllReady.cons rfl (fun K hK => ?_) ?_
    · go_simp
      refine hK _ _ ?_
      clear hK K
      refine gen_alloc (K := fun w => wpAny _ _ _ _ _ _ _ w) ?_
      intro w2 c2 k2 s2
      refine wpAny_ready (rs := [4]) (by kernel_rfl) (by simp) ?_
      refine AllReady.cons rfl (fun K hK => ?_) ?_
      · go_simp
        refine hK _ _ ?_
        clear hK K
        refine gen_alloc (K := fun w => wpAny _ _ _ _ _ _ _ w) ?_
        intro w3 c3 k3 s3
        refine wpAny_ready (rs := [7]) (by kernel_rfl) (by simp) ?_
        refine AllReady.cons rfl (fun K hK => ?_) ?_
        · have HC := Lib.hid (HRP.out w3 w2.heap.size (by unfold World.cell?; simp only [c3]; rfl) (by unfold World.cell?; simp only [c3]; rfl))
          go_simp
          refine HC.out.mono ?_
          clear HC
          rintro e w4 ⟨gM, rfl, q4, c4, k4⟩
          have s4 := heap_lt c4
          go_simp
          refine hK _ _ ?_
          clear hK K
          refine wpAny_take (i := 11) (v := .agg #[.slice (some ⟨w1.heap.size, 0, none⟩) T T, .slice (some ⟨gM, 0, none⟩) M M, .slice (some ⟨w0.heap.size, 0, none⟩) C C]) rfl (by kernel_rfl) (by kernel_rfl) (by kernel_rfl) (fun _ _ _ h => h) (Or.inl ⟨by rfl, ?_⟩) ?_
          · intro w
            go_simp
          refine wpAny_ready (rs := [12]) (by kernel_rfl) (by simp) ?_
          refine AllReady.cons rfl (fun K hK => ?_) AllReady.nil
          go_simp
          refine hK _ _ ?_
          clear hK K
          refine gen_alloc (K := fun w => wpAny _ _ _ _ _ _ _ w) ?_
          intro w5 c5 k5 s5
          refine wpAny_take (i := 13) (v := .pointer (some ⟨w4.heap.size, 0, none⟩)) rfl (by kernel_rfl) (by kernel_rfl) (by kernel_rfl) (fun _ _ _ h => h) (Or.inl ⟨by rfl, ?_⟩) ?_
          · intro w
            go_simp
          refine wpAny_done (by kernel_rfl) ?_ _
          have F1 := Lib.hid (((Below.up (Below.up k3 k4) k5).block _ s2).trans c2)
          have F2 := Lib.hid ((k5.block _ s4).trans c4)
          have F3 := Lib.hid (((Below.up (Below.up (Below.up k2 k3) k4) k5).block _ s1).trans c1)
          have F4 := Lib.hid c5
          have F5 : Below w.heap.size w w5 := (Below.up k0 (Below.up (Below.up (Below.up (Below.up k1 k2) k3) k4) k5))
          have y0 := k0.size
          have y1 := k1.size
          have y2 := k2.size
          have y3 := k3.size
          have y4 := k4.size
          have y5 := k5.size
          clear c1 c2 c3 c4 c5 hm1 hm2
          go_wp2_with fail
          go_ret
          exact ⟨_, rfl, new_sch T M C w4.heap.size w1.heap.size gM w0.heap.size F5 F1.out F2.out F3.out F4.out (by omega) (by omega) (by omega) (by omega) (by omega) (by omega) (by omega) (by omega) (by omega) (by omega), F5⟩
        exact AllReady.nil
      exact AllReady.nil
    refine AllReady.cons rfl (fun K hK => ?_) ?_
    · go_simp
      refine hK _ _ ?_
      clear hK K
      refine gen_alloc (K := fun w => wpAny _ _ _ _ _ _ _ w) ?_
      intro w2 c2 k2 s2
      refine wpAny_ready (rs := [2, 7]) (by kernel_rfl) (by simp) ?_
      refine AllReady.cons rfl (fun K hK => ?_) ?_
      · go_simp
        refine hK _ _ ?_
        clear hK K
        refine gen_alloc (K := fun w => wpAny _ _ _ _ _ _ _ w) ?_
        intro w3 c3 k3 s3
        refine wpAny_ready (rs := [7]) (by kernel_rfl) (by simp) ?_
        refine AllReady.cons rfl (fun K hK => ?_) ?_
        · have HC := Lib.hid (HRP.out w3 w1.heap.size (by unfold World.cell?; simp only [((k3.block _ s2).trans c2)]; rfl) (by unfold World.cell?; simp only [((k3.block _ s2).trans c2)]; rfl))
          go_simp
          refine HC.out.mono ?_
          clear HC
          rintro e w4 ⟨gM, rfl, q4, c4, k4⟩
          have s4 := heap_lt c4
          go_simp
          refine hK _ _ ?_
          clear hK K
          refine wpAny_take (i := 11) (v := .agg #[.slice (some ⟨w2.heap.size, 0, none⟩) T T, .slice (some ⟨gM, 0, none⟩) M M, .slice (some ⟨w0.heap.size, 0, none⟩) C C]) rfl (by kernel_rfl) (by kernel_rfl) (by kernel_rfl) (fun _ _ _ h => h) (Or.inl ⟨by rfl, ?_⟩) ?_
          · intro w
            go_simp
          refine wpAny_ready (rs := [12]) (by kernel_rfl) (by simp) ?_
          refine AllReady.cons rfl (fun K hK => ?_) AllReady.nil
          go_simp
          refine hK _ _ ?_
          clear hK K
          refine gen_alloc (K := fun w => wpAny _ _ _ _ _ _ _ w) ?_
          intro w5 c5 k5 s5
          refine wpAny_take (i := 13) (v := .pointer (some ⟨w4.heap.size, 0, none⟩)) rfl (by kernel_rfl) (by kernel_rfl) (by kernel_rfl) (fun _ _ _ h => h) (Or.inl ⟨by rfl, ?_⟩) ?_
          · intro w
            go_simp
          refine wpAny_done (by kernel_rfl) ?_ _
          have F1 := Lib.hid (((Below.up k4 k5).block _ s3).trans c3)
          have F2 := Lib.hid ((k5.block _ s4).trans c4)
          have F3 := Lib.hid (((Below.up (Below.up (Below.up k2 k3) k4) k5).block _ s1).trans c1)
          have F4 := Lib.hid c5
          have F5 : Below w.heap.size w w5 := (Below.up k0 (Below.up (Below.up (Below.up (Below.up k1 k2) k3) k4) k5))
          have y0 := k0.size
          have y1 := k1.size
          have y2 := k2.size
          have y3 := k3.size
          have y4 := k4.size
          have y5 := k5.size
          clear c1 c2 c3 c4 c5 hm1 hm2
          go_wp2_with fail
          go_ret
          exact ⟨_, rfl, new_sch T M C w4.heap.size w2.heap.size gM w0.heap.size F5 F1.out F2.out F3.out F4.out (by omega) (by omega) (by omega) (by omega) (by omega) (by omega) (by omega) (by omega) (by omega) (by omega), F5⟩
        exact AllReady.nil
      refine AllReady.cons rfl (fun K hK => ?_) ?_
      · have HC := Lib.hid (HRP.out w2 w1.heap.size (by unfold World.cell?; simp only [c2]; rfl) (by unfold World.cell?; simp only [c2]; rfl))
        go_simp
        refine HC.out.mono ?_
        clear HC
        rintro e w3 ⟨gM, rfl, q3, c3, k3⟩
        have s3 := heap_lt c3
        go_simp
        refine hK _ _ ?_
        clear hK K
        refine wpAny_ready (rs := [2]) (by kernel_rfl) (by simp) ?_
        refine AllReady.cons rfl (fun K hK => ?_) ?_
        · go_simp
          refine hK _ _ ?_
          clear hK K
          refine gen_alloc (K := fun w => wpAny _ _ _ _ _ _ _ w) ?_
          intro w4 c4 k4 s4
          refine wpAny_take (i := 11) (v := .agg #[.slice (some ⟨w3.heap.size, 0, none⟩) T T, .slice (some ⟨gM, 0, none⟩) M M, .slice (some ⟨w0.heap.size, 0, none⟩) C C]) rfl (by kernel_rfl) (by kernel_rfl) (by kernel_rfl) (fun _ _ _ h => h) (Or.inl ⟨by rfl, ?_⟩) ?_
          · intro w
            go_simp
          refine wpAny_ready (rs := [12]) (by kernel_rfl) (by simp) ?_
          refine AllReady.cons rfl (fun K hK => ?_) AllReady.nil
          go_simp
          refine hK _ _ ?_
          clear hK K
          refine gen_alloc (K := fun w => wpAny _ _ _ _ _ _ _ w) ?_
          intro w5 c5 k5 s5
          refine wpAny_take (i := 13) (v := .pointer (some ⟨w4.heap.size, 0, none⟩)) rfl (by kernel_rfl) (by kernel_rfl) (by kernel_rfl) (fun _ _ _ h => h) (Or.inl ⟨by rfl, ?_⟩) ?_
          · intro w
            go_simp
          refine wpAny_done (by kernel_rfl) ?_ _
          have F1 := Lib.hid ((k5.block _ s4).trans c4)
          have F2 := Lib.hid (((Below.up k4 k5).block _ s3).trans c3)
          have F3 := Lib.hid (((Below.up (Below.up (Below.up k2 k3) k4) k5).block _ s1).trans c1)
          have F4 := Lib.hid c5
          have F5 : Below w.heap.size w w5 := (Below.up k0 (Below.up (Below.up (Below.up (Below.up k1 k2) k3) k4) k5))
          have y0 := k0.size
          have y1 := k1.size
          have y2 := k2.size
          have y3 := k3.size
          have y4 := k4.size
          have y5 := k5.size
          clear c1 c2 c3 c4 c5 hm1 hm2
          go_wp2_with fail
          go_ret
          exact ⟨_, rfl, new_sch T M C w4.heap.size w3.heap.size gM w0.heap.size F5 F1.out F2.out F3.out F4.out (by omega) (by omega) (by omega) (by omega) (by omega) (by omega) (by omega) (by omega) (by omega) (by omega), F5⟩
        exact AllReady.nil
      exact AllReady.nil
    exact AllReady.nil
  exact AllReady.nil
theorem new_any (w : World) (t m c : Int) (ht : t ≤ 1000) (hm : m ≤ 1000) (hc : c ≤ 1000) :
    Calls Try.prog 9 #[.int .i64 t, .int .i64 m, .int .i64 c] w fun e w' => ∃ g, e = .returned (.pointer (some ⟨g, 0, none⟩)) ∧ Sch w' w.heap.size g (fun k => w.heap.size ≤ k ∧ k < w'.heap.size) (newS t m c) ∧ Below w.heap.size w w' := by
  have h := new_nat w t m c t.toNat m.toNat c.toNat (by omega) (by omega) (by omega) (by omega) (by omega) (by omega)
  have e : newS (t.toNat : Int) (m.toNat : Int) (c.toNat : Int) = newS t m c := by simp [newS]; omega
  rw [e] at h
  exact h
end Go.Proofs.Ytcfkmhmgappckaa

/- The document's example. No condition. -/
namespace Go.Proofs.Ytcfkmhmgappckaa
open Go.RowKit Go.Proofs.Ytcfkmhmgappckaa.Sc Go.Proofs.Ytcfkmhmgappckaa.PAll Go.Proofs.YtcfkmhmgappckaaW.PrintWords Go.Proofs.YtcfkmhmgappckaaW.PrintLast Go.Proofs.YtcfkmhmgappckaaW.PrintMore

/-- What moves the blocks from B on alone leaves what is below B. -/
theorem movesBelow {B : Nat} {w w' w1 : World} (h : Moves (fun k => B ≤ k ∧ k < w1.heap.size) w w') (hB : B ≤ w.heap.size) : Below B w w' :=
  ⟨h.os, h.tape, h.output, h.size, fun k hk => h.block k (by omega) (fun e => by omega)⟩
theorem ex1 : lock (newS 2 1 0) 0 0 = (⟨[0, 0], [(0, [])], []⟩, true, 0) := rfl
theorem ex2 : lock ⟨[0, 0], [(0, [])], []⟩ 1 0 = (⟨[0, 1], [(0, [1])], []⟩, false, 0) := rfl
theorem ex3 : unlock ⟨[0, 1], [(0, [1])], []⟩ 0 0 = (⟨[0, 0], [(1, [])], []⟩, 0) := rfl
set_option maxHeartbeats 1000000 in
set_option maxRecDepth 100000 in
theorem lives_any (w : World) : Calls Try.prog 14 #[] w fun e w' => e = .returned (.bool true) ∧ Below w.heap.size w w' := by
  have k0 := Ok.new 2 1 0
  have k1 := k0.lock 0 0
  rw [ex1] at k1
  have k2 := k1.lock 1 0
  rw [show (lock (⟨[0, 0], [(0, [])], []⟩ : Sd) 1 0) = _ from ex2] at k2
  go_enter Try.func14, Try.ntmps14
  go_wp2_with fail
  refine (new_any w 2 1 0 (by omega) (by omega) (by omega)).mono ?_
  rintro e w1 ⟨g, rfl, s1, b1⟩
  have H1 := Lib.hid s1
  have B1 := Lib.hid b1
  clear s1 b1
  have c1 := lock_any H1.out B1.out.size k0 (by decide) (by decide) 0 0
  rw [ex1] at c1
  have C1 := Lib.hid c1
  clear c1
  go_wp2_with fail
  refine C1.out.mono ?_
  rintro e w2 ⟨rfl, s2⟩
  have H2 := Lib.hid s2
  clear s2 C1
  have z2 : w.heap.size ≤ w2.heap.size := Nat.le_trans B1.out.size H2.out.2.size
  have c2 := lock_any H2.out.1 z2 k1 (by decide) (by decide) 1 0
  rw [show (lock (⟨[0, 0], [(0, [])], []⟩ : Sd) 1 0) = _ from ex2] at c2
  have C2 := Lib.hid c2
  clear c2
  go_wp2_with fail
  refine C2.out.mono ?_
  rintro e w3 ⟨rfl, s3⟩
  have H3 := Lib.hid (H2.out.trans s3)
  clear s3 C2 H2
  have z3 : w.heap.size ≤ w3.heap.size := Nat.le_trans B1.out.size H3.out.2.size
  go_wp2_with fail
  refine (state_sch H3.out.1 (by decide) 1).mono ?_
  rintro e w4 ⟨rfl, rfl⟩
  have c4 := unlock_any H3.out.1 z3 k2 (by decide) (by decide) (by decide) 0 0
  rw [show (unlock (⟨[0, 1], [(0, [1])], []⟩ : Sd) 0 0) = _ from ex3] at c4
  have C4 := Lib.hid c4
  clear c4
  have es : stT (⟨[0, 1], [(0, [1])], []⟩ : Sd) 1 = 1 := rfl
  rw [es]
  clear es
  go_wp2_with fail
  refine C4.out.mono ?_
  rintro e w5 ⟨rfl, s5⟩
  have H5 := Lib.hid (H3.out.trans s5)
  clear s5 C4 H3
  have o5 : owner (⟨[0, 0], [(1, [])], []⟩ : Sd) 0 = 1 := rfl
  have o6 : stT (⟨[0, 0], [(1, [])], []⟩ : Sd) 1 = 0 := rfl
  have c5 := owner_sch H5.out.1 (by decide) 0
  have c6 := state_sch H5.out.1 (by decide) 1
  rw [o5] at c5
  rw [o6] at c6
  have C5 := Lib.hid c5
  have C6 := Lib.hid c6
  clear c5 c6 o5 o6
  go_wp2_with fail
  refine C5.out.mono ?_
  rintro e w6 ⟨rfl, rfl⟩
  go_wp2_with fail
  refine C6.out.mono ?_
  rintro e w7 ⟨rfl, rfl⟩
  go_wp2_with fail
  go_ret
  exact ⟨rfl, B1.out.trans (movesBelow H5.out.2 B1.out.size)⟩
end Go.Proofs.Ytcfkmhmgappckaa

/- Wait, Rest, Row, Pick. No condition but on size. -/
namespace Go.Proofs.Ytcfkmhmgappckaa
open Go.RowKit Go.Proofs.Ytcfkmhmgappckaa.Sc Go.Proofs.Ytcfkmhmgappckaa.PAll Go.Proofs.YtcfkmhmgappckaaW.PrintWords Go.Proofs.YtcfkmhmgappckaaW.PrintLast Go.Proofs.YtcfkmhmgappckaaW.PrintMore

theorem wait_any {w : World} {base g : Nat} {F : Nat → Prop} {S : Sd} (h : Sch w base g F S) (hb : base ≤ w.heap.size) (hk : Ok S []) (hT : S.T.length ≤ 1000) (hM : S.M.length ≤ 1000) (hR : S.R.length ≤ 1000) (t c m : Int) :
    Calls Try.prog 15 #[.pointer (some ⟨g, 0, none⟩), .int .i64 t, .int .i64 c, .int .i64 m] w fun e w' => e = .returned (.int .i64 (wait S t c m).2) ∧ Next w base g F (wait S t c m).1 w' := by
  by_cases hE : waitE S t c m = 0
  · have hx := (first_eq _ _).1 hE
    simp only [Bool.and_eq_true] at hx
    obtain ⟨t, rfl⟩ := Int.eq_ofNat_of_zero_le ((there_iff _ _).1 hx.1.1.1).1
    obtain ⟨c, rfl⟩ := Int.eq_ofNat_of_zero_le ((there_iff _ _).1 hx.1.2).1
    refine (wait_nat h hb hk hT hM hR t c m hE).mono (fun e w' ⟨h1, h2⟩ => ⟨?_, h2⟩)
    rw [h1]; show _ = Ending.returned (.int .i64 (waitE S t c m)); rw [hE]
  · have e : (wait S t c m).1 = S := by unfold Sc.wait; rw [if_neg hE]
    rw [e]
    exact (wait_no h hT hM hR t c m hE).mono (fun e w' ⟨h1, h2⟩ => ⟨h1, Next.of_below h hb h2⟩)
theorem rest_any {w : World} {base g : Nat} {F : Nat → Prop} {S : Sd} (h : Sch w base g F S) (hb : base ≤ w.heap.size) (hk : Ok S []) (hT : S.T.length ≤ 1000) (hM : S.M.length ≤ 1000) (hR : S.R.length ≤ 1000) (t c : Int) :
    Calls Try.prog 26 #[.pointer (some ⟨g, 0, none⟩), .int .i64 t, .int .i64 c] w fun e w' => e = .returned (.int .i64 (Sc.rest S t c).2) ∧ Next w base g F (Sc.rest S t c).1 w' := by
  by_cases hE : restE S t c = 0
  · have hx := (first_eq _ _).1 hE
    simp only [Bool.and_eq_true] at hx
    obtain ⟨t, rfl⟩ := Int.eq_ofNat_of_zero_le ((there_iff _ _).1 hx.1.1).1
    obtain ⟨c, rfl⟩ := Int.eq_ofNat_of_zero_le ((there_iff _ _).1 hx.1.2).1
    refine (rest_nat h hb hk hT hM hR t c hE).mono (fun e w' ⟨h1, h2⟩ => ⟨?_, h2⟩)
    rw [h1]; show _ = Ending.returned (.int .i64 (restE S t c)); rw [hE]
  · have e : (Sc.rest S t c).1 = S := by unfold Sc.rest; rw [if_neg hE]
    rw [e]
    exact (rest_no h hT hM hR t c hE).mono (fun e w' ⟨h1, h2⟩ => ⟨h1, Next.of_below h hb h2⟩)
/-- A list of numbers that is read. -/
def Reads (w : World) (v : Value) (l : List Int) : Prop := ∃ A c, v = .slice A l.length c ∧ l.length ≤ c ∧ Kd.C (Kd.int .i64) w A l.length l
theorem Reads.of_row {w : World} {base t : Nat} {v : Value} {l : List Int} (hl : l.length ≤ 1000) (h : w.ownsRow base t 1 v l.length (l.map (Value.int .i64))) : Reads w v l := by
  rcases h.2 with ⟨e1, e2⟩ | ⟨b, cap, cur, e1, hb, hc, h1, h2, h3, h4⟩
  · have : l = [] := by
      have := h.1
      rw [e2] at this
      exact List.eq_nil_of_length_eq_zero (by simpa using e2)
    subst this
    exact ⟨none, 0, e1, Nat.le_refl _, rfl, by omega, fun h => by simp at h⟩
  · refine ⟨_, cap, e1, h1, rfl, by omega, fun _ => ⟨⟨b, 0, none⟩, rfl, fun j p hj => ⟨[.int .i64 p], rfl, rfl, fun i u hu => ?_⟩⟩⟩
    cases i with
    | succ i => simp at hu
    | zero =>
      obtain rfl : Value.int .i64 p = u := by simpa using hu
      obtain ⟨hjl, hjp⟩ := List.getElem?_eq_some_iff.1 hj
      have hx : cur.toList[j]? = some (.int .i64 p) := by
        have h5 : (cur.toList.take (l.length * 1))[j]? = (l.map (Value.int .i64))[j]? := by rw [h4]
        rw [List.getElem?_take_of_lt (by omega), List.getElem?_map, hj] at h5
        exact h5
      rw [Addr.add_lit]
      unfold World.cell?
      simp only [hc]
      show cur[0 + (j * 1 + 0)]? = _
      rw [Nat.zero_add, Nat.mul_one, Nat.add_zero, ← Array.getElem?_toList]
      exact hx
theorem ready_reads {w : World} {base g : Nat} {F : Nat → Prop} {S : Sd} (h : Sch w base g F S) (hn : S.T.length ≤ 1000) :
    Calls Try.prog 12 #[.pointer (some ⟨g, 0, none⟩)] w fun e w' => ∃ v, e = .returned v ∧ Reads w' v (ready S) ∧ Below w.heap.size w w' := by
  obtain ⟨_, bT, bM, bR, vs, us, h1, _⟩ := h
  refine (ready_any h1 hn).mono ?_
  rintro e w' ⟨v, rfl, hI, hb⟩
  refine ⟨v, rfl, Reads.of_row ?_ hI, hb⟩
  unfold ready
  rw [readyF_len]
  exact Nat.le_trans List.countP_le_length hn
theorem RowIn.cells {w : World} {base t : Nat} {ob : Option Nat} {v : Value} {l : List Int} (h : RowIn w base t 1 ob v (ints l)) : v = .slice none 0 0 ∧ l = [] ∨ ∃ b o c, v = .slice (some ⟨b, o, none⟩) l.length c ∧ ∀ j, j < l.length → w.cell? ⟨b, o + j, none⟩ = some (.int .i64 (l.getD j 0)) := by
  rcases h.2 with ⟨_, e, e2⟩ | ⟨b, off, cap, cs, _, e, _, hc, h1, h2, h3⟩
  · exact .inl ⟨e, by simpa [ints] using e2⟩
  · refine .inr ⟨b, off * 1, cap, by rw [e]; simp [ints], fun j hj => ?_⟩
    have h4 := h3 j (by simpa [ints] using hj)
    have hf : ∀ (l : List Int) (j : Nat), (ints l).flatten[j]? = (l[j]?).map (Value.int .i64) := by
      intro l
      induction l with
      | nil => intro j; simp [ints]
      | cons x l ih =>
        intro j
        cases j with
        | zero => simp [ints]
        | succ j => have := ih j; simpa [ints] using this
    unfold World.cell?
    simp only [hc]
    show cs[off * 1 + j]? = _
    rw [h4, hf, List.getElem?_eq_getElem hj, Option.map_some, List.getD_eq_getElem?_getD, List.getElem?_eq_getElem hj]
    rfl
theorem clone_any {w : World} {base t : Nat} {ob : Option Nat} {v : Value} {l : List Int} (h : RowIn w base t 1 ob v (ints l)) (hl : l.length ≤ 1000) :
    Calls Try.prog 34 #[v] w fun e w' => ∃ v', e = .returned v' ∧ Reads w' v' l ∧ Below w.heap.size w w' := by
  rcases h.cells with ⟨rfl, rfl⟩ | ⟨b, o, c, rfl, hc⟩
  · refine (Try.slices_Clone_int_nil 0 0 w).mono ?_
    rintro e w' ⟨rfl, rfl⟩
    exact ⟨_, rfl, ⟨none, 0, rfl, Nat.le_refl _, rfl, by simp, fun h => by simp at h⟩, Below.refl _ _⟩
  · refine (Try.slices_Clone_int b o l.length c l w (Nat.le_refl _) (by omega) hc).mono ?_
    rintro e w' ⟨v', rfl, h1, _, h2⟩
    rw [List.take_length] at h1
    exact ⟨v', rfl, Reads.of_row hl h1, h2⟩
set_option maxHeartbeats 1000000 in
set_option maxRecDepth 100000 in
theorem row_sch {w : World} {base g : Nat} {F : Nat → Prop} {S : Sd} (h : Sch w base g F S) (hn : S.M.length ≤ 1000) (hl : ∀ x ∈ S.M, x.2.length ≤ 1000) (m : Int) :
    Calls Try.prog 18 #[.pointer (some ⟨g, 0, none⟩), .int .i64 m] w fun e w' => ∃ v, e = .returned v ∧ Reads w' v (rowM S m) ∧ Below w.heap.size w w' := by
  obtain ⟨_, bT, bM, bR, vs, us, h1, _⟩ := h
  have d0 := h1.c1
  by_cases hm : there S.M m = true
  · have hmI := (there_iff _ _).1 hm
    obtain ⟨m, rfl⟩ := Int.eq_ofNat_of_zero_le hmI.1
    have hm2 : m < S.M.length := by omega
    obtain ⟨_, v, hv, d3⟩ := h1.cM m hm2
    rw [Nat.mul_comm] at d3
    have hR := h1.rows m _ v (List.getElem?_eq_getElem hm2) hv
    have hr : rowM S (m : Int) = (S.M[m]).2 := by unfold rowM mu; rw [hm, if_pos rfl, Int.toNat_natCast, List.getD_eq_getElem?_getD, List.getElem?_eq_getElem hm2]; rfl
    have hcl := clone_any hR (hl _ (List.getElem_mem _))
    rw [← hr] at hcl
    have g1 : ((m : Nat) : Int) < (S.M.length : Int) := by omega
    have HC := Lib.hid hcl
    clear hcl hr hR hv h1 hl
    go_enter Try.func18, Try.ntmps18
    go_wp2_with fail
    refine (in_mutex _ _ _ _ _ (by omega)).mono ?_
    rintro e w' ⟨rfl, rfl⟩
    rw [inB_there, hm]
    go_wp2_with fail
    refine HC.out.mono ?_
    rintro e w2 ⟨v2, rfl, hrd, hb⟩
    have HR := Lib.hid hrd
    have HB := Lib.hid hb
    clear hrd hb
    go_wp2_with fail
    go_ret
    exact ⟨v2, rfl, HR.out, HB.out⟩
  · have hm2 : there S.M m = false := by simpa using hm
    have hr : rowM S m = [] := by unfold rowM; rw [hm2]; rfl
    rw [hr]
    clear hr h1 hm hl
    go_enter Try.func18, Try.ntmps18
    go_wp2_with fail
    refine (in_mutex _ _ _ _ _ (by omega)).mono ?_
    rintro e w' ⟨rfl, rfl⟩
    rw [inB_there, hm2]
    go_wp2_with fail
    go_ret
    exact ⟨_, rfl, ⟨none, 0, rfl, Nat.le_refl _, rfl, by simp, fun h => by simp at h⟩, Below.refl _ _⟩
/-- One of those that are ready. -/
def pick (S : Sd) (n : Int) : Int × Bool := if (ready S).length = 0 then (0, false) else ((ready S).getD ((if n < 0 then -(n + 1) else n) % ((ready S).length : Int)).toNat 0, true)
end Go.Proofs.Ytcfkmhmgappckaa

/- Pick, Stuck, End. No condition but on size. -/
namespace Go.Proofs.Ytcfkmhmgappckaa
open Go.RowKit Go.Proofs.Ytcfkmhmgappckaa.Sc Go.Proofs.Ytcfkmhmgappckaa.PAll Go.Proofs.YtcfkmhmgappckaaW.PrintWords Go.Proofs.YtcfkmhmgappckaaW.PrintLast Go.Proofs.YtcfkmhmgappckaaW.PrintMore

theorem cell_stay {w w' : World} {B : Nat} {a : Addr} {v : Value} (hB : w.heap.size ≤ B) (hb : Below B w w') (h : w.cell? a = some v) : w'.cell? a = some v :=
  (hb.cell (Nat.lt_of_lt_of_le (World.block_lt_of_cell? w a h) hB)).trans h
theorem Reads.cell {w : World} {A : Option Addr} {n : Nat} {l : List Int} (h : Kd.C (Kd.int .i64) w A n l) (i : Nat) (hi : i < l.length) : ∃ ad, A = some ad ∧ w.cell? (ad.add i) = some (.int .i64 (l.getD i 0)) := by
  have hn : l.length = n := h.1
  obtain ⟨ad, e, hc⟩ := h.2.2 (by omega)
  obtain ⟨c, hs, hr, hcell⟩ := hc i _ (List.getElem?_eq_getElem hi)
  have hs1 : (Kd.int .i64).sz = 1 := rfl
  obtain rfl : c = [.int .i64 l[i]] := hr
  have := hcell 0 _ rfl
  rw [hs1, Nat.mul_one, Nat.add_zero] at this
  exact ⟨ad, e, by rw [this, List.getD_eq_getElem?_getD, List.getElem?_eq_getElem hi]; rfl⟩
set_option maxHeartbeats 1000000 in
set_option maxRecDepth 100000 in
theorem pick_sch {w : World} {base g : Nat} {F : Nat → Prop} {S : Sd} (h : Sch w base g F S) (hn : S.T.length ≤ 1000) (n : Int) (n1 : -9223372036854775808 ≤ n) (n2 : n ≤ 9223372036854775807) :
    Calls Try.prog 24 #[.pointer (some ⟨g, 0, none⟩), .int .i64 n] w fun e w' => e = .returned (.tuple #[.int .i64 (pick S n).1, .bool (pick S n).2]) ∧ Below w.heap.size w w' := by
  have HR := Lib.hid (ready_reads h hn)
  have hl : (ready S).length ≤ 1000 := by unfold ready; rw [readyF_len]; exact Nat.le_trans List.countP_le_length hn
  clear h hn
  obtain ⟨L, hL⟩ : ∃ L, L = ready S := ⟨_, rfl⟩
  have hp : pick S n = if L.length = 0 then (0, false) else (L.getD ((if n < 0 then -(n + 1) else n) % (L.length : Int)).toNat 0, true) := by rw [hL]; rfl
  rw [← hL] at HR hl
  rw [hp]
  clear hL hp
  by_cases h0 : L.length = 0
  · rw [if_pos h0]
    have hnil : L = [] := List.eq_nil_of_length_eq_zero h0
    subst hnil
    clear h0
    go_enter Try.func24, Try.ntmps24
    go_wp2_with fail
    refine HR.out.mono ?_
    rintro e w1 ⟨v, rfl, ⟨A, c, rfl, hc, _⟩, hb⟩
    have HB := Lib.hid hb
    clear hb
    go_wp2_with fail
    go_ret2
    exact ⟨rfl, HB.out⟩
  · rw [if_neg h0]
    have hbe : ((L.length : Int) == 0) = false := by rw [beq_eq_false_iff_ne]; omega
    obtain ⟨N, hN, hN2⟩ : ∃ N : Nat, (if n < 0 then -(n + 1) else n) = (N : Int) ∧ (N : Int) ≤ 9223372036854775807 := ⟨(if n < 0 then -(n + 1) else n).toNat, by split <;> omega, by split <;> omega⟩
    rw [hN]
    have hm := Nat.mod_lt N (show 0 < L.length by omega)
    have e1 : ((N : Int) % (L.length : Int)).toNat = N % L.length := by rw [← Int.natCast_emod, Int.toNat_natCast]
    have i1 : (0 : Int) ≤ (N : Int) % (L.length : Int) := by rw [← Int.natCast_emod]; omega
    have i2 : (N : Int) % (L.length : Int) < (L.length : Int) := by rw [← Int.natCast_emod]; omega
    have i3 : (0 : Int) < (L.length : Int) := by omega
    by_cases hneg : n < 0
    · rw [if_pos hneg] at hN
      have hd : decide (n < 0) = true := decide_eq_true hneg
      have HN := Lib.hid hN
      clear hN h0
      go_enter Try.func24, Try.ntmps24
      go_wp2_with fail
      refine HR.out.mono ?_
      rintro e w1 ⟨v, rfl, ⟨A, c, rfl, hc, hC⟩, hb⟩
      have HB := Lib.hid hb
      obtain ⟨ad, rfl, hce⟩ := Reads.cell hC (N % L.length) hm
      obtain ⟨x, hx⟩ : ∃ x, x = L.getD (N % L.length) 0 := ⟨_, rfl⟩
      rw [← hx] at hce
      have HX := Lib.hid hx
      clear hx
      clear hb hC
      have hN := HN.out
      go_wp2_with fail
      go_ret2
      exact ⟨by rw [e1, ← HX.out]; rfl, HB.out⟩
    · rw [if_neg hneg] at hN
      subst hN
      have hd : decide ((N : Int) < 0) = false := decide_eq_false hneg
      clear h0 n1 n2
      go_enter Try.func24, Try.ntmps24
      go_wp2_with fail
      refine HR.out.mono ?_
      rintro e w1 ⟨v, rfl, ⟨A, c, rfl, hc, hC⟩, hb⟩
      have HB := Lib.hid hb
      obtain ⟨ad, rfl, hce⟩ := Reads.cell hC (N % L.length) hm
      obtain ⟨x, hx⟩ : ∃ x, x = L.getD (N % L.length) 0 := ⟨_, rfl⟩
      rw [← hx] at hce
      have HX := Lib.hid hx
      clear hx
      clear hb hC
      go_wp2_with fail
      go_ret2
      exact ⟨by rw [e1, ← HX.out]; rfl, HB.out⟩
end Go.Proofs.Ytcfkmhmgappckaa

/- Stuck, End. No condition but on size. -/
namespace Go.Proofs.Ytcfkmhmgappckaa
open Go.RowKit Go.Proofs.Ytcfkmhmgappckaa.Sc Go.Proofs.Ytcfkmhmgappckaa.PAll Go.Proofs.YtcfkmhmgappckaaW.PrintWords Go.Proofs.YtcfkmhmgappckaaW.PrintLast Go.Proofs.YtcfkmhmgappckaaW.PrintMore

theorem over_any (x : Int) (w : World) : Calls Try.prog 35 #[.int .i64 x] w fun e w' => e = .returned (.bool (x != 3)) ∧ w = w' := by
  go_enter Try.func35, Try.ntmps35
  go_wp2
  go_ret
  exact ⟨rfl, rfl⟩
set_option maxHeartbeats 1000000 in
set_option maxRecDepth 100000 in
theorem idx_int (l : List Int) (b c : Nat) (w : World) (hl : l.length ≤ 1000) (hc : ∀ j, j < l.length → w.cell? ⟨b, j, none⟩ = some (.int .i64 (l.getD j 0))) :
    Calls Try.prog 53 #[.slice (some ⟨b, 0, none⟩) l.length c, .func (.func 35) #[] #[]] w fun e w' => ∃ r : Int, e = .returned (.int .i64 r) ∧ decide (0 ≤ r) = l.any (fun x => x != 3) ∧ w = w' := by
  have HC := Lib.hid hc
  clear hc
  go_enter Try.func53, Try.ntmps53
  go_wp2
  go_loop [8] (fun v => ∃ i : Nat, v = .int .i64 (i : Int) ∧ i ≤ l.length ∧ (l.take i).any (fun x => x != 3) = false) (fun v => l.length - (intOf v).toNat)
  case atStart => exact ⟨0, rfl, by omega, rfl⟩
  case round =>
    obtain ⟨i, rfl, hi, hn⟩ := hrel
    have HN := Lib.hid hn
    clear hn
    by_cases hlt : i < l.length
    · have g1 : ((i : Nat) : Int) < (l.length : Int) := by omega
      have hcell := HC.out i hlt
      obtain ⟨x, hx⟩ : ∃ x, x = l.getD i 0 := ⟨_, rfl⟩
      rw [← hx] at hcell
      have hx2 : l[i] = x := by rw [hx, List.getD_eq_getElem?_getD, List.getElem?_eq_getElem hlt]; rfl
      have hst : (l.take (i + 1)).any (fun x => x != 3) = (x != 3) := by
        rw [List.take_succ_eq_append_getElem hlt, List.any_append, HN.out, hx2]; simp
      have HST := Lib.hid hst
      clear hst hx hx2
      by_cases h3 : x = 3
      · have hb : (x != 3) = false := by simp [h3]
        have HST2 := Lib.hid (HST.out.trans hb)
        clear h3
        go_wp2_with fail
        refine (over_any x w).mono ?_
        rintro e w' ⟨rfl, rfl⟩
        go_wp2_with fail
        go_round
        case rel => exact ⟨i + 1, by go_num, by omega, HST2.out⟩
        case measure => simp [intOf]; omega
      · have hb : (x != 3) = true := by simp [h3]
        have hall : l.any (fun x => x != 3) = true := by
          have h1 := HST.out.trans hb
          rw [List.any_eq_true] at h1 ⊢
          obtain ⟨y, hy, h2⟩ := h1
          exact ⟨y, List.mem_of_mem_take hy, h2⟩
        have HA := Lib.hid hall
        clear h3 hall
        go_wp2_with fail
        refine (over_any x w).mono ?_
        rintro e w' ⟨rfl, rfl⟩
        go_wp2_with fail
        go_ret
        exact ⟨(i : Int), rfl, by rw [HA.out]; simp, rfl⟩
    · have hfin : l.any (fun x => x != 3) = false := by have h := HN.out; rwa [List.take_of_length_le (by omega)] at h
      have HA := Lib.hid hfin
      clear hfin
      go_wp2_with fail
      go_ret
      exact ⟨-1, rfl, by rw [HA.out]; rfl, rfl⟩
set_option maxHeartbeats 1000000 in
theorem contf_int (l : List Int) (b c : Nat) (w : World) (hl : l.length ≤ 1000) (hc : ∀ j, j < l.length → w.cell? ⟨b, j, none⟩ = some (.int .i64 (l.getD j 0))) :
    Calls Try.prog 37 #[.slice (some ⟨b, 0, none⟩) l.length c, .func (.func 35) #[] #[]] w fun e w' => e = .returned (.bool (l.any (fun x => x != 3))) ∧ w = w' := by
  have HI := Lib.hid (idx_int l b c w hl hc)
  clear hc
  go_enter Try.func37, Try.ntmps37
  go_wp2_with fail
  refine HI.out.mono ?_
  rintro e w' ⟨r, rfl, hr, rfl⟩
  have HR := Lib.hid hr
  clear hr
  go_wp2_with fail
  go_ret
  exact ⟨by rw [← HR.out]; exact ret_bool (by simp), rfl⟩
set_option maxHeartbeats 1000000 in
set_option maxRecDepth 100000 in
theorem stuck_sch {w : World} {base g : Nat} {F : Nat → Prop} {S : Sd} (h : Sch w base g F S) (hn : S.T.length ≤ 1000) :
    Calls Try.prog 19 #[.pointer (some ⟨g, 0, none⟩)] w fun e w' => e = .returned (.bool (Sc.stuck S)) ∧ w = w' := by
  obtain ⟨_, bT, bM, bR, vs, us, h1, _⟩ := h
  have d0 := h1.c0
  have hc : ∀ j, j < S.T.length → w.cell? ⟨bT, j, none⟩ = some (.int .i64 (S.T.getD j 0)) := fun j hj => by
    rw [h1.cT j hj, List.getD_eq_getElem?_getD, List.getElem?_eq_getElem hj]; rfl
  have hk : Calls Try.prog 36 #[.slice (some ⟨bT, 0, none⟩) S.T.length S.T.length, .int .i64 0] w fun e w' => e = .returned (.bool (S.T.contains 0)) ∧ w = w' := by
    have := Try.slices_Contains_int bT 0 S.T.length S.T.length S.T 0 w (Nat.le_refl _) (by omega) (fun j hj => by rw [Nat.zero_add]; exact hc j hj)
    rw [List.take_length] at this
    exact this.mono (fun e w' ⟨a, b⟩ => ⟨a, b.symm⟩)
  have hf := contf_int S.T bT S.T.length w hn hc
  have he : Sc.stuck S = (!(S.T.contains 0) && S.T.any (fun x => x != 3)) := by
    unfold Sc.stuck
    congr 1
    · rw [Bool.eq_iff_iff]
      simp
      exact ⟨fun h h0 => h 0 h0 rfl, fun h x hx e => h (e ▸ hx)⟩
    · congr 1; funext x; rw [Bool.eq_iff_iff]; simp
  rw [he]
  obtain ⟨A, hA⟩ : ∃ A, A = S.T.contains 0 := ⟨_, rfl⟩
  obtain ⟨B, hB⟩ : ∃ B, B = S.T.any (fun x => x != 3) := ⟨_, rfl⟩
  rw [← hA] at hk ⊢
  rw [← hB] at hf ⊢
  have HK := Lib.hid hk
  have HF := Lib.hid hf
  clear hk hf h1 hc he hA hB
  cases A with
  | true =>
    go_enter Try.func19, Try.ntmps19
    go_wp2_with fail
    refine HK.out.mono ?_
    rintro e w' ⟨rfl, rfl⟩
    go_wp2_with fail
    go_ret
    exact ⟨rfl, rfl⟩
  | false =>
    go_enter Try.func19, Try.ntmps19
    go_wp2_with fail
    refine HK.out.mono ?_
    rintro e w' ⟨rfl, rfl⟩
    go_wp2_with fail
    refine HF.out.mono ?_
    rintro e w' ⟨rfl, rfl⟩
    go_wp2_with fail
    go_ret
    exact ⟨by simp, rfl⟩
end Go.Proofs.Ytcfkmhmgappckaa

/- End. No condition but on size. -/
namespace Go.Proofs.Ytcfkmhmgappckaa
open Go.RowKit Go.Proofs.Ytcfkmhmgappckaa.Sc Go.Proofs.Ytcfkmhmgappckaa.PAll Go.Proofs.YtcfkmhmgappckaaW.PrintWords Go.Proofs.YtcfkmhmgappckaaW.PrintLast Go.Proofs.YtcfkmhmgappckaaW.PrintMore

set_option maxHeartbeats 1000000 in
theorem own_any (o t : Int) (v : Value) (p : Nat) (w : World) (hv : v.oneCell' = true) (hc : w.cell? ⟨p, 0, none⟩ = some (.int .i64 t)) :
    Calls Try.prog 39 #[.agg #[.int .i64 o, v], .pointer (some ⟨p, 0, none⟩)] w fun e w' => e = .returned (.bool (o == t)) ∧ Below w.heap.size w w' := by
  have q := World.cell?_alloc_some w _ (Obj.cells #[.int .i64 o, v] 55 (0, 0)) (by rw [hc]; rfl)
  rw [hc] at q
  go_enter Try.func39, Try.ntmps39
  go_wp2
  trace_state
  go_ret
  exact ⟨rfl, below_alloc (Below.refl _ _) _⟩
set_option maxHeartbeats 1000000 in
set_option maxRecDepth 100000 in
theorem idx_mu (M : List (Int × List Int)) (vs : List (Option Nat × Value)) (bM p c : Nat) (t : Int) (w : World) (hl : M.length ≤ 1000) (hp : w.cell? ⟨p, 0, none⟩ = some (.int .i64 t))
    (hc : ∀ j, (hj : j < M.length) → w.cell? ⟨bM, j * 2, none⟩ = some (.int .i64 (M[j]).1) ∧ ∃ A n q, w.cell? ⟨bM, j * 2 + 1, none⟩ = some (.slice A n q)) :
    Calls Try.prog 54 #[.slice (some ⟨bM, 0, none⟩) M.length c, .func (.func 39) #[] #[.pointer (some ⟨p, 0, none⟩)]] w fun e w' => ∃ r : Int, e = .returned (.int .i64 r) ∧ decide (0 ≤ r) = M.any (fun x => x.1 == t) ∧ Below w.heap.size w w' := by
  have HC := Lib.hid hc
  have HP := Lib.hid hp
  clear hc hp
  go_enter Try.func54, Try.ntmps54
  go_wp2
  go_loopw [8] (fun v wr => ∃ i : Nat, v = .int .i64 (i : Int) ∧ i ≤ M.length ∧ (M.take i).any (fun x => x.1 == t) = false ∧ Below w.heap.size w wr) (fun v _ => M.length - (intOf v).toNat)
  case atStart => exact ⟨0, rfl, by omega, rfl, Below.refl _ _⟩
  case round =>
    obtain ⟨i, rfl, hi, hn, hbw⟩ := hrel
    have HN := Lib.hid hn
    have HBW := Lib.hid hbw
    clear hn hbw
    by_cases hlt : i < M.length
    · have g1 : ((i : Nat) : Int) < (M.length : Int) := by omega
      obtain ⟨e1, A, n, q, e2⟩ := HC.out i hlt
      have c1 := cell_stay (Nat.le_refl _) HBW.out e1
      have c2 := cell_stay (Nat.le_refl _) HBW.out e2
      have c3 := cell_stay (Nat.le_refl _) HBW.out HP.out
      obtain ⟨x, hx⟩ : ∃ x, x = (M[i]).1 := ⟨_, rfl⟩
      rw [← hx] at c1
      have hst : (M.take (i + 1)).any (fun x => x.1 == t) = (x == t) := by
        rw [List.take_succ_eq_append_getElem hlt, List.any_append, HN.out, hx]; simp
      have HO := Lib.hid (own_any x t (.slice A n q) p wr rfl c3)
      have HST := Lib.hid hst
      clear hst hx e1 e2 c3
      by_cases h3 : x = t
      · have hb : (x == t) = true := by simp [h3]
        have hall : M.any (fun x => x.1 == t) = true := by
          have h1 := HST.out.trans hb
          rw [List.any_eq_true] at h1 ⊢
          obtain ⟨y, hy, h2⟩ := h1
          exact ⟨y, List.mem_of_mem_take hy, h2⟩
        have HA := Lib.hid hall
        clear h3 hall
        go_wp2_with fail
        refine HO.out.mono ?_
        rintro e w1 ⟨rfl, hb1⟩
        have HB1 := Lib.hid hb1
        clear hb1
        go_wp2_with fail
        go_ret
        exact ⟨(i : Int), rfl, by rw [HA.out]; simp, Below.trans HBW.out (HB1.out.mono HBW.out.size)⟩
      · have hb : (x == t) = false := by simp [h3]
        have HST2 := Lib.hid (HST.out.trans hb)
        clear h3
        go_wp2_with fail
        refine HO.out.mono ?_
        rintro e w1 ⟨rfl, hb1⟩
        have HB1 := Lib.hid hb1
        clear hb1
        go_wp2_with fail
        go_roundw
        case rel => exact ⟨i + 1, by go_num, by omega, HST2.out, Below.trans HBW.out (HB1.out.mono HBW.out.size)⟩
        case measure => simp [intOf]; omega
    · have hfin : M.any (fun x => x.1 == t) = false := by have h := HN.out; rwa [List.take_of_length_le (by omega)] at h
      have HA := Lib.hid hfin
      clear hfin
      go_wp2_with fail
      go_ret
      exact ⟨-1, rfl, by rw [HA.out]; rfl, HBW.out⟩
end Go.Proofs.Ytcfkmhmgappckaa

/- End, walked. No condition but on size. -/
namespace Go.Proofs.Ytcfkmhmgappckaa
open Go.RowKit Go.Proofs.Ytcfkmhmgappckaa.Sc Go.Proofs.Ytcfkmhmgappckaa.PAll Go.Proofs.YtcfkmhmgappckaaW.PrintWords Go.Proofs.YtcfkmhmgappckaaW.PrintLast Go.Proofs.YtcfkmhmgappckaaW.PrintMore

set_option maxHeartbeats 1000000 in
theorem contf_mu (M : List (Int × List Int)) (vs : List (Option Nat × Value)) (bM p c : Nat) (t : Int) (w : World) (hl : M.length ≤ 1000) (hp : w.cell? ⟨p, 0, none⟩ = some (.int .i64 t))
    (hc : ∀ j, (hj : j < M.length) → w.cell? ⟨bM, j * 2, none⟩ = some (.int .i64 (M[j]).1) ∧ ∃ A n q, w.cell? ⟨bM, j * 2 + 1, none⟩ = some (.slice A n q)) :
    Calls Try.prog 38 #[.slice (some ⟨bM, 0, none⟩) M.length c, .func (.func 39) #[] #[.pointer (some ⟨p, 0, none⟩)]] w fun e w' => e = .returned (.bool (M.any (fun x => x.1 == t))) ∧ Below w.heap.size w w' := by
  have HI := Lib.hid (idx_mu M vs bM p c t w hl hp hc)
  clear hc hp
  go_enter Try.func38, Try.ntmps38
  go_wp2_with fail
  refine HI.out.mono ?_
  rintro e w' ⟨r, rfl, hr, hb⟩
  have HR := Lib.hid hr
  have HB := Lib.hid hb
  clear hr hb
  go_wp2_with fail
  go_ret
  exact ⟨by rw [← HR.out]; exact ret_bool (by simp), HB.out⟩
theorem endE_eq (S : Sd) (t : Int) : first (there S.T t) ((stT S t == 0) && !(S.M.any (fun x => x.1 == t))) = endE S t := by
  unfold endE
  have e : (fun x : Int × List Int => x.1 == t) = (fun x => decide (x.1 = t)) := by funext x; rw [Bool.eq_iff_iff]; simp
  rw [e]
  rfl
attribute [local go_sem ↓] Go.wp_at_zero Go.wp_at_succ
set_option maxHeartbeats 4000000 in
set_option maxRecDepth 100000 in
theorem end_any {w : World} {base g : Nat} {F : Nat → Prop} {S : Sd} (h : Sch w base g F S) (hb : base ≤ w.heap.size) (hT : S.T.length ≤ 1000) (hM : S.M.length ≤ 1000) (t : Int) :
    Calls Try.prog 20 #[.pointer (some ⟨g, 0, none⟩), .int .i64 t] w fun e w' => e = .returned (.int .i64 (endT S t).2) ∧ Next w base g F (endT S t).1 w' := by
  have hmf : ∀ (fn : Fn) (first cap : Array Value) (w : World), (Instr.makeFunc fn first cap).run Try.prog w = .ok (.func fn first cap) w := fun _ _ _ _ => rfl
  obtain ⟨bT, bM, bR, vs, us, hS, f1, f2, f3, f4, f5⟩ := h.2
  obtain ⟨wa, hwa⟩ : ∃ wa, wa = w.alloc (.cells #[.int .i64 t] 3 (0, 0)) := ⟨_, rfl⟩
  have hba : Below w.heap.size w wa := by rw [hwa]; exact below_alloc (Below.refl _ _) _
  have hp : wa.cell? ⟨w.heap.size, 0, none⟩ = some (.int .i64 t) := by rw [hwa]; exact cell_at_new _ _ _ 0 _ rfl
  have hlt : w.heap.size < wa.heap.size := by rw [hwa]; simp
  have hSa := hS.below hba
  have d1 := hSa.c1
  have hcf := contf_mu S.M vs bM w.heap.size S.M.length t wa hM hp (fun j hj => by
    obtain ⟨q1, v, hv, q2⟩ := hSa.cM j hj
    obtain ⟨A, n, c, e⟩ := (hSa.rows j _ v (List.getElem?_eq_getElem hj) hv).slice
    rw [Nat.mul_comm 2 j] at q1 q2
    rw [e] at q2
    exact ⟨q1, A, n, c, q2⟩)
  have HCF := Lib.hid hcf
  have HS := Lib.hid hS
  have HH := Lib.hid h
  have HBA := Lib.hid hba
  have HP := Lib.hid hp
  have HF5 := Lib.hid f5
  have HLE := Lib.hid (endE_eq S t)
  obtain ⟨hasB, hhas⟩ : ∃ b, b = S.M.any (fun x => x.1 == t) := ⟨_, rfl⟩
  rw [← hhas] at HCF HLE
  clear h hcf hS hba hp f5 hSa hhas
  go_enter Try.func20, Try.ntmps20
  go_upto_region 1 with fail
  rw [← hwa]
  clear hwa
  go_wp2_with fail
  refine HCF.out.mono ?_
  rintro e w1 ⟨rfl, hb1⟩
  have HB1 := Lib.hid (Below.trans HBA.out (hb1.mono HBA.out.size))
  have c2 : w1.cell? ⟨w.heap.size, 0, none⟩ = some (.int .i64 t) := cell_stay (Nat.le_refl _) hb1 HP.out
  have hsz : w.heap.size < w1.heap.size := Nat.lt_of_lt_of_le hlt hb1.size
  have h1 := HS.out.below HB1.out
  have d0 := h1.c0
  have hst := fun (W : World) (hb : Below w.heap.size w W) => state_sch (HH.out.below hb) hT t
  have HST := Lib.hid hst
  clear hb1 hst h1 HCF d1
  have hTn : S.T.length ≤ 1000000000000 := by omega
  obtain ⟨o, ho⟩ : ∃ o, o = Obj.cells #[Value.bool (stT S t == 0), .bool (!hasB)] 4 (0, 0) := ⟨_, rfl⟩
  have q1 : (w1.alloc (Obj.cells #[Value.bool (stT S t == 0), .bool (!hasB)] 4 (0, 0))).drew.cell? ⟨g, 0, none⟩ = some (.slice (some ⟨bT, 0, none⟩) S.T.length S.T.length) := (World.cell?_alloc_some w1 _ _ (by rw [d0]; rfl)).trans d0
  have q2 : (w1.alloc (Obj.cells #[Value.bool (stT S t == 0), .bool (!hasB)] 4 (0, 0))).drew.cell? ⟨w.heap.size, 0, none⟩ = some (.int .i64 t) := (World.cell?_alloc_some w1 _ _ (by rw [c2]; rfl)).trans c2
  have hfi := first_two (w1.alloc (Obj.cells #[Value.bool (stT S t == 0), .bool (!hasB)] 4 (0, 0))).drew w1.heap.size (inB S.T.length t) (stT S t == 0) (!hasB) (cell_at_new w1 _ _ 0 _ rfl) (cell_at_new w1 _ _ 1 _ rfl)
  have hle2 := HLE.out
  rw [← inB_there] at hle2
  rw [hle2] at hfi
  have hbq : Below w.heap.size w (w1.alloc (Obj.cells #[Value.bool (stT S t == 0), .bool (!hasB)] 4 (0, 0))).drew := (below_alloc HB1.out _).drew
  have hbd : Below w.heap.size w w1.drew := HB1.out.drew
  have HFI := Lib.hid hfi
  have HBQ := Lib.hid hbq
  have HBD := Lib.hid hbd
  have HQ1 := Lib.hid q1
  have HQ2 := Lib.hid q2
  clear hfi hbq hbd hle2 q1 q2 ho o HLE
  have hst3 : ∀ w3, Below (w1.alloc (Obj.cells #[Value.bool (stT S t == 0), .bool (!hasB)] 4 (0, 0))).drew.heap.size (w1.alloc (Obj.cells #[Value.bool (stT S t == 0), .bool (!hasB)] 4 (0, 0))).drew w3 →
      (w3.cell? ⟨g, 0, none⟩ = some (.slice (some ⟨bT, 0, none⟩) S.T.length S.T.length) ∧ w3.cell? ⟨w.heap.size, 0, none⟩ = some (.int .i64 t)) ∧ Below w.heap.size w w3 := fun w3 hb3 =>
    ⟨⟨cell_stay (Nat.le_refl _) hb3 HQ1.out, cell_stay (Nat.le_refl _) hb3 HQ2.out⟩, Below.trans HBQ.out (hb3.mono HBQ.out.size)⟩
  have HS3 := Lib.hid hst3
  clear hst3
  go_upto_region 2 with fail
  go_region_held3 (fun W => (W.cell? ⟨g, 0, none⟩ = some (.slice (some ⟨bT, 0, none⟩) S.T.length S.T.length) ∧ W.cell? ⟨w.heap.size, 0, none⟩ = some (.int .i64 t)) ∧ Below w.heap.size w W)
    (first | assumption | exact ⟨⟨d0, c2⟩, HBD.out⟩ | exact ⟨⟨HQ1.out, HQ2.out⟩, HBQ.out⟩ | go_keep)
    (first
      | (go_at_call 29; (with_reducible refine Calls.mono (in_int (some ⟨bT, 0, none⟩) S.T.length S.T.length t _ hTn) ?_); rintro e w3 ⟨rfl, rfl⟩)
      | (go_at_call 16; (with_reducible refine Calls.mono (HST.out _ (And.right (by assumption))) ?_); rintro e w3 ⟨rfl, rfl⟩)
      | (go_at_call 28; (with_reducible refine Calls.mono HFI.out ?_); rintro e w3 ⟨rfl, hb3⟩; have ht := HS3.out w3 hb3))
  all_goals
    have hA : Next w base g F S w3 := Next.of_below HH.out hb (And.right (by assumption))
    have HA := Lib.hid hA
    clear hA
    by_cases hE : endE S t = 0
    · have hx := (first_eq _ _).1 hE
      have htI := (there_iff _ _).1 hx.1
      obtain ⟨t, rfl⟩ := Int.eq_ofNat_of_zero_le htI.1
      have ht1 : t < S.T.length := by omega
      have g1 : ((t : Nat) : Int) < (S.T.length : Int) := by omega
      have hS3 := HS.out.below (And.right (show (_ ∧ Below w.heap.size w w3) by assumption))
      have d4 := hS3.cT t ht1
      have z4 : w3.frozen? ⟨bT, t, none⟩ = false := by simp [World.frozen?, hS3.T]
      obtain ⟨n1, n2, n3, n4, n5, n6⟩ := hS3.ne3
      have n7 : ¬ bT = w.heap.size := by have := (HS.out.blocks (b := bT) (by simp)).2; omega
      have d5 := hS3.c0
      have d6 : w3.cell? ⟨w.heap.size, 0, none⟩ = some (.int .i64 (t : Int)) := (And.right (And.left (show ((_ ∧ w3.cell? ⟨w.heap.size, 0, none⟩ = some (.int .i64 (t : Int))) ∧ Below w.heap.size w w3) by assumption)))
      have h4 := hS3.setT t ht1 3
      have h5 : Next w base g F (setT S t 3) (w3.setCell ⟨bT, t, none⟩ (.int .i64 3)) := HH.out.next hb h4 (HA.out.2.store _ _ f2) ⟨f1, f2, f3, f4⟩ (fun x hx k hk => .inl (HF5.out x hx k hk))
      have h6 : Next w base g F (setT S t 3) (w3.setCell ⟨bT, t, none⟩ (.int .i64 3)).drew := HH.out.next hb (h4.below ((Below.refl _ _).drew)) ((HA.out.2.store _ _ f2).below (Below.refl _ _).drew) ⟨f1, f2, f3, f4⟩ (fun x hx k hk => .inl (HF5.out x hx k hk))
      have e2 : (endT S t) = (setT S t 3, 0) := by unfold endT; rw [if_pos hE, hE]
      have HE2 := Lib.hid e2
      have H5 := Lib.hid h5
      have H6 := Lib.hid h6
      rw [hE]
      clear h4 h5 h6 hS3 hx htI hE e2 HA HST HQ1 HQ2 HS3 HFI
      go_upto_region 4 with fail
      go_region
      all_goals
        go_wp2_with fail
        go_ret
        rw [HE2.out]
        exact ⟨rfl, H6.out⟩
    · have hne : (endE S t == 0) = false := by simpa using hE
      have e2 : (endT S t) = (S, endE S t) := by unfold endT; rw [if_neg hE]
      have HE2 := Lib.hid e2
      clear e2 hE
      go_wp2_with fail
      go_ret
      rw [HE2.out]
      exact ⟨rfl, HA.out⟩
end Go.Proofs.Ytcfkmhmgappckaa

/- Wake. No condition but on size. -/
namespace Go.Proofs.Ytcfkmhmgappckaa
open Go.RowKit Go.Proofs.Ytcfkmhmgappckaa.Sc Go.Proofs.Ytcfkmhmgappckaa.PAll Go.Proofs.YtcfkmhmgappckaaW.PrintWords Go.Proofs.YtcfkmhmgappckaaW.PrintLast Go.Proofs.YtcfkmhmgappckaaW.PrintMore

theorem RowIn.pairAt {w : World} {base t : Nat} {ob : Option Nat} {v : Value} {l : List (Int × Int)} (h : RowIn w base t 2 ob v (pairs l)) : v = .slice none 0 0 ∧ l = [] ∨ ∃ b o c, ob = some b ∧ v = .slice (some ⟨b, o, none⟩) l.length c ∧ ∀ j, (hj : j < l.length) → w.cell? ⟨b, o + j * 2, none⟩ = some (.int .i64 (l[j]).1) ∧ w.cell? ⟨b, o + j * 2 + 1, none⟩ = some (.int .i64 (l[j]).2) := by
  rcases h.2 with ⟨_, e, e2⟩ | ⟨b, off, cap, cs, e0, e, _, hc, h1, h2, h3⟩
  · exact .inl ⟨e, by simpa [pairs] using e2⟩
  · refine .inr ⟨b, off * 2, cap, e0, by rw [e]; simp [pairs], fun j hj => ?_⟩
    have hl : (pairs l).length = l.length := by simp [pairs]
    have k0 := h3 (j * 2) (by rw [hl]; omega)
    have k1 := h3 (j * 2 + 1) (by rw [hl]; omega)
    have f0 := flat2 (pairs l) (fun c hc => by obtain ⟨x, _, rfl⟩ := List.mem_map.1 hc; rfl) j 0 (by omega)
    have f1 := flat2 (pairs l) (fun c hc => by obtain ⟨x, _, rfl⟩ := List.mem_map.1 hc; rfl) j 1 (by omega)
    have hx : (pairs l)[j]? = some [.int .i64 (l[j]).1, .int .i64 (l[j]).2] := by simp [pairs, hj]
    rw [hx] at f0 f1
    rw [Nat.mul_comm 2 j] at f0 f1
    constructor
    · unfold World.cell?
      simp only [hc]
      show cs[off * 2 + j * 2]? = _
      rw [k0]; exact f0
    · unfold World.cell?
      simp only [hc]
      show cs[off * 2 + j * 2 + 1]? = _
      rw [Nat.add_assoc, k1]; exact f1
/-- A condition's row is taken out. -/
theorem Sch.taken {w : World} {base g : Nat} {F : Nat → Prop} {S : Sd} (h : Sch w base g F S) (c : Nat) (hc : c < S.R.length) : ∃ bR ob u0, w.cell? ⟨g, 2, none⟩ = some (.slice (some ⟨bR, 0, none⟩) S.R.length S.R.length) ∧ w.cell? ⟨bR, c, none⟩ = some u0 ∧ w.frozen? ⟨bR, c, none⟩ = false ∧ bR ≠ g ∧
    RowIn w base 67 2 ob u0 (pairs (S.R[c])) ∧ Sch (w.setCell ⟨bR, c, none⟩ (.slice none 0 0)) base g (fun k => F k ∧ some k ≠ ob) (setR S c []) ∧ F bR ∧ some bR ≠ ob := by
  obtain ⟨h0, bT, bM, bR, vs, us, h1, f1, f2, f3, f4, f5⟩ := h
  obtain ⟨⟨ob, u0⟩, hu, hcell⟩ := h1.cR c hc
  have hul : c < us.length := by have := h1.lenU; omega
  have hmem : (ob, u0) ∈ vs ++ us := by have := List.mem_of_getElem? hu; simp [this]
  have hR := h1.rests c _ _ (List.getElem?_eq_getElem hc) hu
  have h2 := h1.setU c hc (x' := []) hu (grown_refl w ob) (ob' := none) (v' := .slice none 0 0) ⟨fun d hd => by simp [pairs] at hd, .inl ⟨rfl, rfl, rfl⟩⟩ (.inl rfl)
  have hat : (vs ++ us)[vs.length + c]? = some (ob, u0) := by rw [List.getElem?_append_right (by omega), Nat.add_sub_cancel_left]; exact hu
  have hne : ∀ b, (b = g ∨ b = bT ∨ b = bM ∨ b = bR) → some b ≠ ob := fun b hb e => h1.far hb _ hmem e.symm
  have hothers : ∀ (i : Nat) (x : Option Nat × Value), (vs ++ us)[i]? = some x → i ≠ vs.length + c → ∀ b, x.1 = some b → some b ≠ ob := by
    intro i x hi hne b hb e
    have hp := (List.pairwise_append.1 h1.apart).2.1
    rw [List.pairwise_iff_getElem] at hp
    obtain ⟨hi2, hi3⟩ := List.getElem?_eq_some_iff.1 hi
    obtain ⟨hm2, hm3⟩ := List.getElem?_eq_some_iff.1 hat
    rcases Nat.lt_or_gt_of_ne hne with hlt | hlt
    · have := hp i (vs.length + c) (by simpa using hi2) (by simpa using hm2) hlt
      simp only [List.getElem_map, hi3, hm3, hb, ← e] at this
      simp at this
    · have := hp (vs.length + c) i (by simpa using hm2) (by simpa using hi2) hlt
      simp only [List.getElem_map, hi3, hm3, hb, ← e] at this
      simp at this
  refine ⟨bR, ob, u0, h1.c2, hcell, by simp [World.frozen?, h1.R], h1.ne3.2.2.1, hR, ⟨fun k hk => ⟨(h0 k hk.1).1, by simpa [World.setCell] using (h0 k hk.1).2⟩, bT, bM, bR, vs, us.set c (none, .slice none 0 0), h2, ⟨f1, hne g (by simp)⟩, ⟨f2, hne bT (by simp)⟩, ⟨f3, hne bM (by simp)⟩, ⟨f4, hne bR (by simp)⟩, fun x hx k hk => ?_⟩, f4, hne bR (by simp)⟩
  rcases List.mem_append.1 hx with hx | hx
  · obtain ⟨i, hi, rfl⟩ := List.getElem_of_mem hx
    exact ⟨f5 _ (List.mem_append.2 (.inl hx)) k hk, hothers i _ (by rw [List.getElem?_append_left hi, List.getElem?_eq_getElem hi]) (by omega) k hk⟩
  · obtain ⟨i, hi, rfl⟩ := List.getElem_of_mem hx
    rw [List.length_set] at hi
    by_cases e : c = i
    · subst e; simp at hk
    · simp only [List.getElem_set, if_neg e] at hk
      exact ⟨f5 _ (List.mem_append.2 (.inr (List.getElem_mem hi))) k hk, hothers (vs.length + i) (us[i]) (by rw [List.getElem?_append_right (by omega), Nat.add_sub_cancel_left, List.getElem?_eq_getElem hi]) (by omega) k hk⟩
theorem Next.wider {w w1 w2 : World} {base g : Nat} {F : Nat → Prop} {G : Nat → Prop} {S : Sd} (hm : Moves F w w1) (h0 : ∀ k, F k → base ≤ k ∧ k < w.heap.size) (hb : base ≤ w.heap.size) (hG : ∀ k, G k → F k) (h : Next w1 base g G S w2) : Next w base g F S w2 := by
  have hsz := hm.size
  have hsz2 := h.2.size
  refine ⟨h.1.mono (fun k q => ?_) (fun k q => ?_), ⟨h.2.os.trans hm.os, h.2.tape.trans hm.tape, h.2.output.trans hm.output, Nat.le_trans hsz hsz2, fun k hk hn => (h.2.block k (by omega) (fun q => hn (hG k q))).trans (hm.block k hk hn)⟩⟩
  · rcases q with q | q
    · exact .inl (hG k q)
    · exact .inr ⟨by omega, q.2⟩
  · rcases q with q | q
    · have := h0 k q; omega
    · omega
end Go.Proofs.Ytcfkmhmgappckaa

/- Wake, walked. No condition but on size. -/
namespace Go.Proofs.Ytcfkmhmgappckaa
open Go.RowKit Go.Proofs.Ytcfkmhmgappckaa.Sc Go.Proofs.Ytcfkmhmgappckaa.PAll Go.Proofs.YtcfkmhmgappckaaW.PrintWords Go.Proofs.YtcfkmhmgappckaaW.PrintLast Go.Proofs.YtcfkmhmgappckaaW.PrintMore

theorem RowIn.valW {w : World} {base t sz : Nat} {ob : Option Nat} {v : Value} {l : List (List Value)} (h : RowIn w base t sz ob v l) : ∃ A c, v = .slice A l.length c ∧ l.length ≤ c := by
  rcases h.2 with ⟨_, e, e2⟩ | ⟨b, off, cap, cs, _, e, _, _, h1, _⟩
  · subst e2; exact ⟨_, _, e, by simp⟩
  · exact ⟨_, _, e, h1⟩
theorem Sch.stateCell {w : World} {base g : Nat} {F : Nat → Prop} {S : Sd} (h : Sch w base g F S) (t : Nat) (ht : t < S.T.length) : ∃ bT, w.cell? ⟨g, 0, none⟩ = some (.slice (some ⟨bT, 0, none⟩) S.T.length S.T.length) ∧ w.cell? ⟨bT, t, none⟩ = some (.int .i64 S.T[t]) ∧ w.frozen? ⟨bT, t, none⟩ = false ∧ bT ≠ g ∧ F bT ∧
    ∀ (w' : World) (v : Int), base ≤ w.heap.size → w' = w.setCell ⟨bT, t, none⟩ (.int .i64 v) → Next w base g F (setT S t v) w' := by
  obtain ⟨bT, bM, bR, vs, us, hS, f1, f2, f3, f4, f5⟩ := h.2
  refine ⟨bT, hS.c0, hS.cT t ht, by simp [World.frozen?, hS.T], hS.ne3.1, f2, fun w' v hb e => ?_⟩
  rw [e]
  exact h.next hb (hS.setT t ht v) ((Moves.refl F w).store _ _ f2) ⟨f1, f2, f3, f4⟩ (fun x hx k hk => .inl (f5 x hx k hk))
/-- What holds in each round. -/
structure WakeSt (w1 wr : World) (base g : Nat) (F2 : Nat → Prop) (S1 : Sd) (L : List (Int × Int)) (ob : Option Nat) (u0 : Value) (i : Nat) : Prop where
  N : Next w1 base g F2 ((L.take i).foldl wakeOne S1) wr
  ok : Ok ((L.take i).foldl wakeOne S1) ((L.drop i).map (·.1))
  mid : ∀ x ∈ L, x.2 = -1 ∨ there ((L.take i).foldl wakeOne S1).M x.2 = true
  R : RowIn wr base 67 2 ob u0 (pairs L)
  len : ((L.take i).foldl wakeOne S1).T.length ≤ 1000
theorem WakeSt.step {w1 wr w3 : World} {base g : Nat} {F2 : Nat → Prop} {S1 : Sd} {L : List (Int × Int)} {ob : Option Nat} {u0 : Value} {i : Nat} (h : WakeSt w1 wr base g F2 S1 L ob u0 i) (hi : i < L.length) (hob : ∀ b, ob = some b → ¬ F2 b ∧ b < w1.heap.size)
    (hN : Next wr base g (Plus F2 w1 wr) (wakeOne ((L.take i).foldl wakeOne S1) L[i]) w3) : WakeSt w1 w3 base g F2 S1 L ob u0 (i + 1) := by
  have e : (L.take (i + 1)).foldl wakeOne S1 = wakeOne ((L.take i).foldl wakeOne S1) L[i] := by rw [List.take_succ_eq_append_getElem hi, List.foldl_append]; rfl
  have hok := h.ok
  rw [List.drop_eq_getElem_cons hi, List.map_cons] at hok
  refine ⟨by rw [e]; exact h.N.trans hN, by rw [e]; exact hok.wakeOne (h.mid _ (List.getElem_mem hi)), fun x hx => ?_, h.R.same (fun b hb => ?_), ?_⟩
  · rw [e, there_size (size_wakeOne _ _)]; exact h.mid x hx
  · exact hN.2.block b (h.R.lt b hb).2 (fun q => q.elim (hob b hb).1 (fun q => by have := (hob b hb).2; omega))
  · rw [e]; have := (size_wakeOne ((L.take i).foldl wakeOne S1) L[i]).1; have := h.len; omega
attribute [local go_sem ↓] Go.wp_at_zero Go.wp_at_succ
set_option maxHeartbeats 4000000 in
set_option maxRecDepth 100000 in
theorem wake_yes {w : World} {base g : Nat} {F : Nat → Prop} {S : Sd} (h : Sch w base g F S) (hb : base ≤ w.heap.size) (hk : Ok S []) (hT : S.T.length ≤ 1000) (lR : S.R.length ≤ 1000) (c : Nat) (hc : c < S.R.length) :
    Calls Try.prog 17 #[.pointer (some ⟨g, 0, none⟩), .int .i64 (c : Int)] w fun e w' => e = .returned (.tuple #[.int .i64 ((S.R[c]).length : Int), .int .i64 0]) ∧ Next w base g F ((S.R[c]).foldl wakeOne (setR S c [])) w' := by
  obtain ⟨bR, ob, u0, d2, d3, z3, n1, hR, hS1, fR, nR⟩ := h.taken c hc
  have hcT : there S.R (c : Int) = true := (there_iff _ _).2 ⟨by omega, by omega⟩
  have hre : S.R.getD (c : Int).toNat [] = S.R[c] := by rw [Int.toNat_natCast, List.getD_eq_getElem?_getD, List.getElem?_eq_getElem hc]; rfl
  have hok := hk.taken (c : Int) hcT
  have hmid := hk.midAt (c : Int) hcT
  rw [hre] at hok hmid
  have hLl : (S.R[c]).length ≤ 1000 := Nat.le_trans (hk.restFew _ (List.getElem_mem _)) hT
  obtain ⟨L, hL⟩ : ∃ L, L = S.R[c] := ⟨_, rfl⟩
  rw [← hL] at hok hmid hLl hR ⊢
  have hv := hR.valW
  obtain ⟨A, cap, hv, hcap⟩ := hv
  have hpl : (pairs L).length = L.length := by simp [pairs]
  rw [hpl] at hv
  subst hv
  obtain ⟨w1, hw1⟩ : ∃ w1, w1 = w.setCell ⟨bR, c, none⟩ (.slice none 0 0) := ⟨_, rfl⟩
  rw [← hw1] at hS1
  have hM1 : Moves F w w1 := by rw [hw1]; exact (Moves.refl F w).store _ _ fR
  have hsz1 : w1.heap.size = w.heap.size := by rw [hw1]; simp [World.setCell]
  have hst : WakeSt w1 w1 base g (fun k => F k ∧ some k ≠ ob) (setR S c []) L ob (.slice A L.length cap) 0 :=
    ⟨Next.of_below hS1 (by omega) (Below.refl _ _), by simpa using hok, hmid, hR.same (fun b hb2 => by rw [hw1]; exact Below.heap_setCell w ⟨bR, c, none⟩ _ b (fun e => nR (by rw [hb2, e]))), hT⟩
  have hobN : ∀ b, ob = some b → ¬ (F b ∧ some b ≠ ob) ∧ b < w1.heap.size := fun b hb2 => ⟨fun q => q.2 hb2.symm, by rw [hsz1]; exact (hR.lt b hb2).2⟩
  have g1 : ((c : Nat) : Int) < (S.R.length : Int) := by omega
  have HST := Lib.hid hst
  have HON := Lib.hid hobN
  have HM1 := Lib.hid hM1
  have HF0 := Lib.hid h.1
  have hb1 : base ≤ w1.heap.size := by omega
  clear hst hobN hM1 hR hok hmid hre hpl hcap h hk hS1 hL hsz1
  go_enter Try.func17, Try.ntmps17
  go_wp2_with fail
  refine (in_rests _ _ _ _ _ (by omega)).mono ?_
  rintro e w' ⟨rfl, hw'⟩
  rw [hw']
  clear hw' w'
  rw [inB_there, hcT]
  go_upto_region 5 with fail
  rw [← hw1]
  clear hw1
  go_wp2_with fail
  go_loopw [31] (fun v wr => ∃ i : Nat, v = .int .i64 (i : Int) ∧ i ≤ L.length ∧ WakeSt w1 wr base g (fun k => F k ∧ some k ≠ ob) (setR S c []) L ob (.slice A L.length cap) i) (fun v _ => L.length - (intOf v).toNat)
  case atStart => exact ⟨0, rfl, by omega, HST.out⟩
  case round =>
    clear HST d2 d3 z3
    obtain ⟨i, rfl, hi, hs⟩ := hrel
    by_cases hlt : i < L.length
    · have g2 : ((i : Nat) : Int) < (L.length : Int) := by omega
      rcases hs.R.pairAt with ⟨_, e⟩ | ⟨b, o, cp, hobb, hv, hcell⟩
      · rw [e] at hlt; simp at hlt
      obtain rfl : A = some ⟨b, o, none⟩ := (Value.slice.inj hv).1
      obtain rfl : cap = cp := (Value.slice.inj hv).2.2
      obtain ⟨k1, k2⟩ := hcell i hlt
      clear hcell hv
      have hsz := hs.N.2.size
      have hbr : base ≤ wr.heap.size := by omega
      obtain ⟨t, mm, hx⟩ : ∃ t mm, L[i] = (t, mm) := ⟨_, _, rfl⟩
      rw [hx] at k1 k2
      obtain ⟨S2, hS2⟩ : ∃ S2, S2 = (L.take i).foldl wakeOne (setR S c []) := ⟨_, rfl⟩
      have hok2 := hs.ok
      have hmid2 := hs.mid _ (List.getElem_mem hlt)
      have hlen2 := hs.len
      rw [← hS2] at hok2 hmid2 hlen2
      rw [List.drop_eq_getElem_cons hlt, List.map_cons, hx] at hok2
      rw [hx] at hmid2
      have htt : there S2.T t = true := stT_there S2 t (by
        have := hok2.rest t
        rw [List.count_cons_self] at this
        by_cases e : stT S2 t = 2
        · omega
        · rw [if_neg e] at this; omega)
      have hNx := hs.N
      rw [← hS2] at hNx
      obtain ⟨t, rfl⟩ := Int.eq_ofNat_of_zero_le ((there_iff _ _).1 htt).1
      have ht2 : t < S2.T.length := by have := ((there_iff _ _).1 htt).2; omega
      -- the round's own variable
      have hba : Below wr.heap.size wr (wr.alloc (Obj.cells #[Value.int .i64 (t : Int), .int .i64 mm] 67 (0, 0))) := below_alloc (Below.refl _ _) _
      have hSa := hNx.1.below hba
      have p0 : (wr.alloc (Obj.cells #[Value.int .i64 (t : Int), .int .i64 mm] 67 (0, 0))).cell? ⟨wr.heap.size, 0, none⟩ = some (.int .i64 (t : Int)) := cell_at_new _ _ _ 0 _ rfl
      have p1 : (wr.alloc (Obj.cells #[Value.int .i64 (t : Int), .int .i64 mm] 67 (0, 0))).cell? ⟨wr.heap.size, 1, none⟩ = some (.int .i64 mm) := cell_at_new _ _ _ 1 _ rfl
      have hHS := Lib.hid hs
      by_cases hm1 : mm = -1
      · subst hm1
        obtain ⟨bT, e0, e1, e2, n2, fT, hset⟩ := hSa.stateCell t ht2
        have hbsz : base ≤ (wr.alloc (Obj.cells #[Value.int .i64 (t : Int), .int .i64 (-1)] 67 (0, 0))).heap.size := Nat.le_trans hbr hba.size
        have n3 : ¬ bT = wr.heap.size := fun e => by
          have := (hNx.1.1 bT fT).2; omega
        have hfin := hset _ 0 hbsz rfl
        have hfin2 := Next.pre hba hNx.1.1 hbr hfin
        have hdr : Next wr base g (Plus (fun k => F k ∧ some k ≠ ob) w1 wr) (setT S2 t 0) (((wr.alloc (Obj.cells #[Value.int .i64 (t : Int), .int .i64 (-1)] 67 (0, 0))).setCell ⟨bT, t, none⟩ (.int .i64 0)).drew) :=
          hfin2.trans (Next.of_below hfin2.1 (Nat.le_trans hbr hfin2.2.size) (Below.refl _ _).drew)
        have hwk : wakeOne S2 ((t : Int), (-1 : Int)) = setT S2 t 0 := by unfold wakeOne; rw [if_pos rfl]
        have hstep : WakeSt w1 (((wr.alloc (Obj.cells #[Value.int .i64 (t : Int), .int .i64 (-1)] 67 (0, 0))).setCell ⟨bT, t, none⟩ (.int .i64 0)).drew) base g (fun k => F k ∧ some k ≠ ob) (setR S c []) L ob (.slice (some ⟨b, o, none⟩) L.length cap) (i + 1) :=
          hs.step hlt HON.out (by rw [hx, ← hS2, hwk]; exact hdr)
        have HSTEP := Lib.hid hstep
        have g4 : ((t : Nat) : Int) < (S2.T.length : Int) := by omega
        clear hstep hdr hfin hfin2 hset hSa hs hok2 hmid2 hNx hwk hx hS2
        go_upto_region 9 with fail
        go_region
        all_goals
          go_wp2_with fail
          go_roundw
          case rel => exact ⟨i + 1, by go_num, by omega, HSTEP.out⟩
          case measure => simp [intOf]; omega
      · have hmb : (mm == -1) = false := by simpa using hm1
        have hco := come_any hSa (Nat.le_trans hbr hba.size) (t : Int) mm htt (hmid2.resolve_left hm1) (Nat.le_trans (hok2.rowFew _ (mu_mem S2 mm (hmid2.resolve_left hm1))) hlen2)
        have hwk : wakeOne S2 ((t : Int), mm) = (come S2 t mm).1 := by unfold wakeOne; rw [if_neg hm1]
        have hstep : ∀ w3, Next (wr.alloc (Obj.cells #[Value.int .i64 (t : Int), .int .i64 mm] 67 (0, 0))) base g (Plus (fun k => F k ∧ some k ≠ ob) w1 wr) (come S2 t mm).1 w3 → WakeSt w1 w3 base g (fun k => F k ∧ some k ≠ ob) (setR S c []) L ob (.slice (some ⟨b, o, none⟩) L.length cap) (i + 1) := fun w3 hN =>
          hs.step hlt HON.out (by rw [hx, ← hS2, hwk]; exact Next.pre hba hNx.1.1 hbr hN)
        have HSTEP := Lib.hid hstep
        have HCO := Lib.hid hco
        clear hstep hco hSa hs hok2 hmid2 hNx hwk hx hS2
        go_wp2_with fail
        refine HCO.out.mono ?_
        rintro e w3 ⟨rfl, hN3⟩
        have H3 := Lib.hid (HSTEP.out w3 hN3)
        clear hN3
        go_wp2_with fail
        go_roundw
        case rel => exact ⟨i + 1, by go_num, by omega, H3.out⟩
        case measure => simp [intOf]; omega
    · obtain rfl : i = L.length := by omega
      have hn := hs.N
      rw [List.take_length] at hn
      have hfin : Next w base g F (L.foldl wakeOne (setR S c [])) wr := Next.wider HM1.out HF0.out hb (fun k q => q.1) hn
      have HN := Lib.hid hfin
      clear hfin hn hs
      go_wp2_with fail
      go_ret2
      exact ⟨rfl, HN.out⟩
theorem wake_any {w : World} {base g : Nat} {F : Nat → Prop} {S : Sd} (h : Sch w base g F S) (hb : base ≤ w.heap.size) (hk : Ok S []) (hT : S.T.length ≤ 1000) (lR : S.R.length ≤ 1000) (c : Int) :
    Calls Try.prog 17 #[.pointer (some ⟨g, 0, none⟩), .int .i64 c] w fun e w' => e = .returned (.tuple #[.int .i64 (wake S c).2.1, .int .i64 (wake S c).2.2]) ∧ Next w base g F (wake S c).1 w' := by
  by_cases hc : there S.R c = true
  · obtain ⟨c, rfl⟩ := Int.eq_ofNat_of_zero_le ((there_iff _ _).1 hc).1
    have hc1 : c < S.R.length := by have := ((there_iff _ _).1 hc).2; omega
    have hre : S.R.getD (c : Int).toNat [] = S.R[c] := by rw [Int.toNat_natCast, List.getD_eq_getElem?_getD, List.getElem?_eq_getElem hc1]; rfl
    have e : wake S (c : Int) = ((S.R[c]).foldl wakeOne (setR S c []), ((S.R[c]).length : Int), 0) := by unfold wake; rw [if_pos hc, hre]
    rw [e]
    exact wake_yes h hb hk hT lR c hc1
  · have hc2 : there S.R c = false := by simpa using hc
    have e : wake S c = (S, 0, 1) := by unfold wake; rw [if_neg hc]
    rw [e]
    obtain ⟨bT, bM, bR, d0, d1, d2⟩ := h.cells
    have HN := Lib.hid (Next.of_below h hb (Below.refl _ _))
    clear h e hc
    go_enter Try.func17, Try.ntmps17
    go_wp2_with fail
    refine (in_rests _ _ _ _ _ (by omega)).mono ?_
    rintro e w' ⟨rfl, rfl⟩
    rw [inB_there, hc2]
    go_wp2_with fail
    go_ret2
    exact ⟨rfl, HN.out⟩
end Go.Proofs.Ytcfkmhmgappckaa
