/- A schedule is made. Condition: so many at most. -/
import Derived.Test.YtcfkmhmgappckaaRepeatW
import Derived.Deep.RegionWith
namespace Go.Proofs.Ytcfkmhmgappckaa
open Go.RowKit Go.Proofs.Ytcfkmhmgappckaa.Sc Go.Proofs.Ytcfkmhmgappckaa.PAll Go.Proofs.YtcfkmhmgappckaaW.PrintWords Go.Proofs.YtcfkmhmgappckaaW.PrintLast Go.Proofs.YtcfkmhmgappckaaW.PrintMore

theorem infoRests : (Try.prog.info? 65).map (fun i => (i.zero, i.size, i.bytes)) = some (some (.slice none 0 0), 1, 24) := by kernel_rfl
theorem made_one (v : Value) (n : Nat) : madeCells #[v] (n * 1) = (List.replicate n v).toArray := by
  apply Array.ext
  · simp [madeCells]
  · intro i h1 h2
    simp [madeCells, Nat.mod_one]
theorem gen_alloc {K : World → Prop} {W : World} {o : Obj} (h : ∀ w1, w1.heap[W.heap.size]? = some o → Below W.heap.size W w1 → W.heap.size < w1.heap.size → K w1) : K (W.alloc o) :=
  h _ (heap_alloc_new W o) (below_alloc (Below.refl _ _) o) (by simp)
theorem new_sch {w w' : World} (t m c : Nat) (g bT bM bR : Nat) (hb : Below w.heap.size w w') (hT : w'.heap[bT]? = some (.cells (List.replicate t (.int .i64 0)).toArray 3 (0, 0))) (hM : w'.heap[bM]? = some (.cells (reps m m).flatten.toArray 55 (0, 0)))
    (hR : w'.heap[bR]? = some (.cells (List.replicate c (.slice none 0 0)).toArray 65 (0, 0))) (hg : w'.heap[g]? = some (.cells #[.slice (some ⟨bT, 0, none⟩) t t, .slice (some ⟨bM, 0, none⟩) m m, .slice (some ⟨bR, 0, none⟩) c c] 58 (0, 0)))
    (gT : w.heap.size ≤ bT) (gM : w.heap.size ≤ bM) (gR : w.heap.size ≤ bR) (gg : w.heap.size ≤ g) (n1 : bT ≠ bM) (n2 : bT ≠ bR) (n3 : bM ≠ bR) (n4 : g ≠ bT) (n5 : g ≠ bM) (n6 : g ≠ bR) :
    Sch w' w.heap.size g (fun k => w.heap.size ≤ k ∧ k < w'.heap.size) (newS t m c) := by
  refine ⟨fun k hk => hk, bT, bM, bR, List.replicate m (none, .slice none 0 0), List.replicate c (none, .slice none 0 0), ⟨gg, ?_, gT, gM, gR, ?_, ?_, ?_, ?_, ?_, ?_, ?_, ?_⟩, ⟨gg, heap_lt hg⟩, ⟨gT, heap_lt hT⟩, ⟨gM, heap_lt hM⟩, ⟨gR, heap_lt hR⟩, ?_⟩
  · simpa [newS] using hg
  · simpa [newS] using hT
  · simp [newS]
  · rw [hM]
    congr 3
    simp only [reps, newS, Nat.sub_self, List.replicate_zero, List.append_nil, Int.toNat_natCast]
    congr 1
    apply List.ext_getElem
    · simp
    · intro i h1 h2; simp
  · intro i x v hx hv
    have e1 := List.eq_of_mem_replicate (List.mem_of_getElem? hx)
    have e2 := List.eq_of_mem_replicate (List.mem_of_getElem? hv)
    rw [e1, e2]
    exact ⟨fun d hd => by simp [ints] at hd, .inl ⟨rfl, rfl, rfl⟩⟩
  · simp [newS]
  · simpa [newS] using hR
  · intro i x v hx hv
    have e1 := List.eq_of_mem_replicate (List.mem_of_getElem? hx)
    have e2 := List.eq_of_mem_replicate (List.mem_of_getElem? hv)
    rw [e1, e2]
    exact ⟨fun d hd => by simp [pairs] at hd, .inl ⟨rfl, rfl, rfl⟩⟩
  · have hn : ∀ x ∈ (List.replicate m ((none : Option Nat), Value.slice none 0 0) ++ List.replicate c ((none : Option Nat), Value.slice none 0 0)).map (fun x : Option Nat × Value => x.1), x = none := by
      intro x hx
      obtain ⟨y, hy, rfl⟩ := List.mem_map.1 hx
      rcases List.mem_append.1 hy with h | h <;> rw [List.eq_of_mem_replicate h]
    refine List.pairwise_append.2 ⟨by simp; omega, ?_, fun a _ b hb => .inr (.inl (hn b hb))⟩
    rw [List.pairwise_iff_getElem]
    intro i j hi hj _
    exact .inl (hn _ (List.getElem_mem _))
  · intro x hx k hk
    rcases List.mem_append.1 hx with h | h <;> rw [List.eq_of_mem_replicate h] at hk <;> cases hk
set_option maxHeartbeats 4000000 in
set_option maxRecDepth 100000 in
theorem new_nat (w : World) (t m c : Int) (T M C : Nat) (hT : max t 0 = (T : Int)) (hM : max m 0 = (M : Int)) (hC : max c 0 = (C : Int)) (lT : T ≤ 1000) (lM : M ≤ 1000) (lC : C ≤ 1000) :
    Calls Try.prog 9 #[.int .i64 t, .int .i64 m, .int .i64 c] w fun e w' => ∃ g, e = .returned (.pointer (some ⟨g, 0, none⟩)) ∧ Sch w' w.heap.size g (fun k => w.heap.size ≤ k ∧ k < w'.heap.size) (newS T M C) ∧ Below w.heap.size w w' := by
  obtain ⟨i0, hi, hz0, hz1, hz2⟩ := info_parts infoInt
  obtain ⟨i1, hj, hy0, hy1, hy2⟩ := info_parts infoRests
  have hm1 : ∀ w : World, (Instr.makeSlice 22 (.int .i64 (max t 0)) (.int .i64 (max t 0))).run Try.prog w = .ok (.slice (some ⟨w.heap.size, 0, none⟩) T T) (w.alloc (.cells (List.replicate T (.int .i64 0)).toArray 3 (0, 0))) := by
    intro w
    have := run_make (P := Try.prog) w 22 3 i0 _ Try.underlying22 hi hz0 .i64 .i64 (T : Int) (T : Int) (by omega) (Int.le_refl _) (by rw [hz2]; omega) (by omega)
    rw [hz1, Int.toNat_natCast] at this
    rw [hT, this, ← made_one]
    rfl
  have hm2 : ∀ w : World, (Instr.makeSlice 56 (.int .i64 (max c 0)) (.int .i64 (max c 0))).run Try.prog w = .ok (.slice (some ⟨w.heap.size, 0, none⟩) C C) (w.alloc (.cells (List.replicate C (.slice none 0 0)).toArray 65 (0, 0))) := by
    intro w
    have := run_make (P := Try.prog) w 56 65 i1 _ Try.underlying56 hj hy0 .i64 .i64 (C : Int) (C : Int) (by omega) (Int.le_refl _) (by rw [hy2]; omega) (by omega)
    rw [hy1, Int.toNat_natCast] at this
    rw [hC, this, ← made_one]
    rfl
  have hrp : ∀ (w : World) (bx : Nat), w.cell? ⟨bx, 0, none⟩ = some (.int .i64 (-1)) → w.cell? ⟨bx, 1, none⟩ = some (.slice none 0 0) → Calls Try.prog 27 #[.slice (some ⟨bx, 0, none⟩) 1 1, .int .i64 (max m 0)] w fun e w' => ∃ g, e = .returned (.slice (some ⟨g, 0, none⟩) M M) ∧ w.heap.size ≤ g ∧ w'.heap[g]? = some (.cells (reps M M).flatten.toArray 55 (0, 0)) ∧ Below w.heap.size w w' := by
    intro w bx h1 h2
    rw [hM]
    exact repeat_any w bx M lM h1 h2
  have HRP := Lib.hid hrp
  clear hrp hT hM hC hi hj hz0 hz1 hz2 hy0 hy1 hy2
  go_enter Try.func9, Try.ntmps9
  go_wp2_with fail
  refine wp_region_any (by kernel_rfl) ?_
  change wpAny _ _ _ _ _ _ _ (World.drew _)
  obtain ⟨w0, hw0⟩ : ∃ w0, w0 = World.drew w := ⟨_, rfl⟩
  rw [← hw0]
  have k0 : Below w.heap.size w w0 := by rw [hw0]; exact below_drew (Below.refl _ _)
  clear hw0
  refine wpAny_take (i := 0) (v := .int .i64 t) rfl (by kernel_rfl) (by kernel_rfl) (by kernel_rfl) (fun _ _ _ h => h) (Or.inl ⟨by rfl, ?_⟩) ?_
  · intro w
    go_simp
  refine wpAny_take (i := 3) (v := .agg #[.int .i64 (-1), .slice none 0 0]) rfl (by kernel_rfl) (by kernel_rfl) (by kernel_rfl) (fun _ _ _ h => h) (Or.inl ⟨by rfl, ?_⟩) ?_
  · intro w
    go_simp
  refine wpAny_take (i := 5) (v := .int .i64 m) rfl (by kernel_rfl) (by kernel_rfl) (by kernel_rfl) (fun _ _ _ h => h) (Or.inl ⟨by rfl, ?_⟩) ?_
  · intro w
    go_simp
  refine wpAny_take (i := 8) (v := .int .i64 c) rfl (by kernel_rfl) (by kernel_rfl) (by kernel_rfl) (fun _ _ _ h => h) (Or.inl ⟨by rfl, ?_⟩) ?_
  · intro w
    go_simp
  refine wpAny_take (i := 1) (v := .int .i64 (max t 0)) rfl (by kernel_rfl) (by kernel_rfl) (by kernel_rfl) (fun _ _ _ h => h) (Or.inl ⟨by rfl, ?_⟩) ?_
  · intro w
    go_simp
  refine wpAny_take (i := 6) (v := .int .i64 (max m 0)) rfl (by kernel_rfl) (by kernel_rfl) (by kernel_rfl) (fun _ _ _ h => h) (Or.inl ⟨by rfl, ?_⟩) ?_
  · intro w
    go_simp
  refine wpAny_take (i := 9) (v := .int .i64 (max c 0)) rfl (by kernel_rfl) (by kernel_rfl) (by kernel_rfl) (fun _ _ _ h => h) (Or.inl ⟨by rfl, ?_⟩) ?_
  · intro w
    go_simp
  refine wpAny_ready (rs := [2, 4, 10]) (by kernel_rfl) (by simp) ?_
  refine AllReady.cons rfl (fun K hK => ?_) ?_
  · go_simp
    refine hK _ _ ?_
    clear hK K
    refine gen_alloc (K := fun w => wpAny _ _ _ _ _ _ _ w) ?_
    intro w1 c1 k1 s1
    refine wpAny_ready (rs := [4, 10]) (by kernel_rfl) (by simp) ?_
    refine AllReady.cons rfl (fun K hK => ?_) ?_
    · go_simp
      refine hK _ _ ?_
      clear hK K
      refine gen_alloc (K := fun w => wpAny _ _ _ _ _ _ _ w) ?_
      intro w2 c2 k2 s2
      refine wpAny_ready (rs := [7, 10]) (by kernel_rfl) (by simp) ?_
      refine AllReady.cons rfl (fun K hK => ?_) ?_
      · have HC := Lib.hid (HRP.out w2 w1.heap.size (by unfold World.cell?; simp only [c2]; rfl) (by unfold World.cell?; simp only [c2]; rfl))
        go_simp
        refine HC.out.mono ?_
        clear HC
        rintro e w3 ⟨gM, rfl, q3, c3, k3⟩
        have s3 := heap_lt c3
        go_simp
        refine hK _ _ ?_
        clear hK K
        refine wpAny_ready (rs := [10]) (by kernel_rfl) (by simp) ?_
        refine AllReady.cons rfl (fun K hK => ?_) ?_
        · go_simp
          refine hK _ _ ?_
          clear hK K
          refine gen_alloc (K := fun w => wpAny _ _ _ _ _ _ _ w) ?_
          intro w4 c4 k4 s4
          refine wpAny_take (i := 11) (v := .agg #[.slice (some ⟨w0.heap.size, 0, none⟩) T T, .slice (some ⟨gM, 0, none⟩) M M, .slice (some ⟨w3.heap.size, 0, none⟩) C C]) rfl (by kernel_rfl) (by kernel_rfl) (by kernel_rfl) (fun _ _ _ h => h) (Or.inl ⟨by rfl, ?_⟩) ?_
          · intro w
            go_simp
          refine wpAny_ready (rs := [12]) (by kernel_rfl) (by simp) ?_
          refine AllReady.cons rfl (fun K hK => ?_) AllReady.nil
          go_simp
          refine hK _ _ ?_
          clear hK K
          refine gen_alloc (K := fun w => wpAny _ _ _ _ _ _ _ w) ?_
          intro w5 c5 k5 s5
          refine wpAny_take (i := 13) (v := .pointer (some ⟨w4.heap.size, 0, none⟩)) rfl (by kernel_rfl) (by kernel_rfl) (by kernel_rfl) (fun _ _ _ h => h) (Or.inl ⟨by rfl, ?_⟩) ?_
          · intro w
            go_simp
          refine wpAny_done (by kernel_rfl) ?_ _
          have F1 := Lib.hid (((Below.up (Below.up (Below.up k2 k3) k4) k5).block _ s1).trans c1)
          have F2 := Lib.hid (((Below.up k4 k5).block _ s3).trans c3)
          have F3 := Lib.hid ((k5.block _ s4).trans c4)
          have F4 := Lib.hid c5
          have F5 : Below w.heap.size w w5 := (Below.up k0 (Below.up (Below.up (Below.up (Below.up k1 k2) k3) k4) k5))
          have y0 := k0.size
          have y1 := k1.size
          have y2 := k2.size
          have y3 := k3.size
          have y4 := k4.size
          have y5 := k5.size
          clear c1 c2 c3 c4 c5 hm1 hm2
          go_wp2_with fail
          go_ret
          exact ⟨_, rfl, new_sch T M C w4.heap.size w0.heap.size gM w3.heap.size F5 F1.out F2.out F3.out F4.out (by omega) (by omega) (by omega) (by omega) (by omega) (by omega) (by omega) (by omega) (by omega) (by omega), F5⟩
        exact AllReady.nil
      refine AllReady.cons rfl (fun K hK => ?_) ?_
      · go_simp
        refine hK _ _ ?_
        clear hK K
        refine gen_alloc (K := fun w => wpAny _ _ _ _ _ _ _ w) ?_
        intro w3 c3 k3 s3
        refine wpAny_ready (rs := [7]) (by kernel_rfl) (by simp) ?_
        refine AllReady.cons rfl (fun K hK => ?_) ?_
        · have HC := Lib.hid (HRP.out w3 w1.heap.size (by unfold World.cell?; simp only [((k3.block _ s2).trans c2)]; rfl) (by unfold World.cell?; simp only [((k3.block _ s2).trans c2)]; rfl))
          go_simp
          refine HC.out.mono ?_
          clear HC
          rintro e w4 ⟨gM, rfl, q4, c4, k4⟩
          have s4 := heap_lt c4
          go_simp
          refine hK _ _ ?_
          clear hK K
          refine wpAny_take (i := 11) (v := .agg #[.slice (some ⟨w0.heap.size, 0, none⟩) T T, .slice (some ⟨gM, 0, none⟩) M M, .slice (some ⟨w2.heap.size, 0, none⟩) C C]) rfl (by kernel_rfl) (by kernel_rfl) (by kernel_rfl) (fun _ _ _ h => h) (Or.inl ⟨by rfl, ?_⟩) ?_
          · intro w
            go_simp
          refine wpAny_ready (rs := [12]) (by kernel_rfl) (by simp) ?_
          refine AllReady.cons rfl (fun K hK => ?_) AllReady.nil
          go_simp
          refine hK _ _ ?_
          clear hK K
          refine gen_alloc (K := fun w => wpAny _ _ _ _ _ _ _ w) ?_
          intro w5 c5 k5 s5
          refine wpAny_take (i := 13) (v := .pointer (some ⟨w4.heap.size, 0, none⟩)) rfl (by kernel_rfl) (by kernel_rfl) (by kernel_rfl) (fun _ _ _ h => h) (Or.inl ⟨by rfl, ?_⟩) ?_
          · intro w
            go_simp
          refine wpAny_done (by kernel_rfl) ?_ _
          have F1 := Lib.hid (((Below.up (Below.up (Below.up k2 k3) k4) k5).block _ s1).trans c1)
          have F2 := Lib.hid ((k5.block _ s4).trans c4)
          have F3 := Lib.hid (((Below.up k4 k5).block _ s3).trans c3)
          have F4 := Lib.hid c5
          have F5 : Below w.heap.size w w5 := (Below.up k0 (Below.up (Below.up (Below.up (Below.up k1 k2) k3) k4) k5))
          have y0 := k0.size
          have y1 := k1.size
          have y2 := k2.size
          have y3 := k3.size
          have y4 := k4.size
          have y5 := k5.size
          clear c1 c2 c3 c4 c5 hm1 hm2
          go_wp2_with fail
          go_ret
          exact ⟨_, rfl, new_sch T M C w4.heap.size w0.heap.size gM w2.heap.size F5 F1.out F2.out F3.out F4.out (by omega) (by omega) (by omega) (by omega) (by omega) (by omega) (by omega) (by omega) (by omega) (by omega), F5⟩
        exact AllReady.nil
      exact AllReady.nil
    refine AllReady.cons rfl (fun K hK => ?_) ?_
    · go_simp
      refine hK _ _ ?_
      clear hK K
      refine gen_alloc (K := fun w => wpAny _ _ _ _ _ _ _ w) ?_
      intro w2 c2 k2 s2
      refine wpAny_ready (rs := [4]) (by kernel_rfl) (by simp) ?_
      refine AllReady.cons rfl (fun K hK => ?_) ?_
      · go_simp
        refine hK _ _ ?_
        clear hK K
        refine gen_alloc (K := fun w => wpAny _ _ _ _ _ _ _ w) ?_
        intro w3 c3 k3 s3
        refine wpAny_ready (rs := [7]) (by kernel_rfl) (by simp) ?_
        refine AllReady.cons rfl (fun K hK => ?_) ?_
        · have HC := Lib.hid (HRP.out w3 w2.heap.size (by unfold World.cell?; simp only [c3]; rfl) (by unfold World.cell?; simp only [c3]; rfl))
          go_simp
          refine HC.out.mono ?_
          clear HC
          rintro e w4 ⟨gM, rfl, q4, c4, k4⟩
          have s4 := heap_lt c4
          go_simp
          refine hK _ _ ?_
          clear hK K
          refine wpAny_take (i := 11) (v := .agg #[.slice (some ⟨w0.heap.size, 0, none⟩) T T, .slice (some ⟨gM, 0, none⟩) M M, .slice (some ⟨w1.heap.size, 0, none⟩) C C]) rfl (by kernel_rfl) (by kernel_rfl) (by kernel_rfl) (fun _ _ _ h => h) (Or.inl ⟨by rfl, ?_⟩) ?_
          · intro w
            go_simp
          refine wpAny_ready (rs := [12]) (by kernel_rfl) (by simp) ?_
          refine AllReady.cons rfl (fun K hK => ?_) AllReady.nil
          go_simp
          refine hK _ _ ?_
          clear hK K
          refine gen_alloc (K := fun w => wpAny _ _ _ _ _ _ _ w) ?_
          intro w5 c5 k5 s5
          refine wpAny_take (i := 13) (v := .pointer (some ⟨w4.heap.size, 0, none⟩)) rfl (by kernel_rfl) (by kernel_rfl) (by kernel_rfl) (fun _ _ _ h => h) (Or.inl ⟨by rfl, ?_⟩) ?_
          · intro w
            go_simp
          refine wpAny_done (by kernel_rfl) ?_ _
          have F1 := Lib.hid (((Below.up (Below.up (Below.up k2 k3) k4) k5).block _ s1).trans c1)
          have F2 := Lib.hid ((k5.block _ s4).trans c4)
          have F3 := Lib.hid (((Below.up (Below.up k3 k4) k5).block _ s2).trans c2)
          have F4 := Lib.hid c5
          have F5 : Below w.heap.size w w5 := (Below.up k0 (Below.up (Below.up (Below.up (Below.up k1 k2) k3) k4) k5))
          have y0 := k0.size
          have y1 := k1.size
          have y2 := k2.size
          have y3 := k3.size
          have y4 := k4.size
          have y5 := k5.size
          clear c1 c2 c3 c4 c5 hm1 hm2
          go_wp2_with fail
          go_ret
          exact ⟨_, rfl, new_sch T M C w4.heap.size w0.heap.size gM w1.heap.size F5 F1.out F2.out F3.out F4.out (by omega) (by omega) (by omega) (by omega) (by omega) (by omega) (by omega) (by omega) (by omega) (by omega), F5⟩
        exact AllReady.nil
      exact AllReady.nil
    exact AllReady.nil
  refine AllReady.cons rfl (fun K hK => ?_) ?_
  · go_simp
    refine hK _ _ ?_
    clear hK K
    refine gen_alloc (K := fun w => wpAny _ _ _ _ _ _ _ w) ?_
    intro w1 c1 k1 s1
    refine wpAny_ready (rs := [2, 7, 10]) (by kernel_rfl) (by simp) ?_
    refine AllReady.cons rfl (fun K hK => ?_) ?_
    · go_simp
      refine hK _ _ ?_
      clear hK K
      refine gen_alloc (K := fun w => wpAny _ _ _ _ _ _ _ w) ?_
      intro w2 c2 k2 s2
      refine wpAny_ready (rs := [7, 10]) (by kernel_rfl) (by simp) ?_
      refine AllReady.cons rfl (fun K hK => ?_) ?_
      · have HC := Lib.hid (HRP.out w2 w0.heap.size (by unfold World.cell?; simp only [((k2.block _ s1).trans c1)]; rfl) (by unfold World.cell?; simp only [((k2.block _ s1).trans c1)]; rfl))
        go_simp
        refine HC.out.mono ?_
        clear HC
        rintro e w3 ⟨gM, rfl, q3, c3, k3⟩
        have s3 := heap_lt c3
        go_simp
        refine hK _ _ ?_
        clear hK K
        refine wpAny_ready (rs := [10]) (by kernel_rfl) (by simp) ?_
        refine AllReady.cons rfl (fun K hK => ?_) ?_
        · go_simp
          refine hK _ _ ?_
          clear hK K
          refine gen_alloc (K := fun w => wpAny _ _ _ _ _ _ _ w) ?_
          intro w4 c4 k4 s4
          refine wpAny_take (i := 11) (v := .agg #[.slice (some ⟨w1.heap.size, 0, none⟩) T T, .slice (some ⟨gM, 0, none⟩) M M, .slice (some ⟨w3.heap.size, 0, none⟩) C C]) rfl (by kernel_rfl) (by kernel_rfl) (by kernel_rfl) (fun _ _ _ h => h) (Or.inl ⟨by rfl, ?_⟩) ?_
          · intro w
            go_simp
          refine wpAny_ready (rs := [12]) (by kernel_rfl) (by simp) ?_
          refine AllReady.cons rfl (fun K hK => ?_) AllReady.nil
          go_simp
          refine hK _ _ ?_
          clear hK K
          refine gen_alloc (K := fun w => wpAny _ _ _ _ _ _ _ w) ?_
          intro w5 c5 k5 s5
          refine wpAny_take (i := 13) (v := .pointer (some ⟨w4.heap.size, 0, none⟩)) rfl (by kernel_rfl) (by kernel_rfl) (by kernel_rfl) (fun _ _ _ h => h) (Or.inl ⟨by rfl, ?_⟩) ?_
          · intro w
            go_simp
          refine wpAny_done (by kernel_rfl) ?_ _
          have F1 := Lib.hid (((Below.up (Below.up k3 k4) k5).block _ s2).trans c2)
          have F2 := Lib.hid (((Below.up k4 k5).block _ s3).trans c3)
          have F3 := Lib.hid ((k5.block _ s4).trans c4)
          have F4 := Lib.hid c5
          have F5 : Below w.heap.size w w5 := (Below.up k0 (Below.up (Below.up (Below.up (Below.up k1 k2) k3) k4) k5))
          have y0 := k0.size
          have y1 := k1.size
          have y2 := k2.size
          have y3 := k3.size
          have y4 := k4.size
          have y5 := k5.size
          clear c1 c2 c3 c4 c5 hm1 hm2
          go_wp2_with fail
          go_ret
          exact ⟨_, rfl, new_sch T M C w4.heap.size w1.heap.size gM w3.heap.size F5 F1.out F2.out F3.out F4.out (by omega) (by omega) (by omega) (by omega) (by omega) (by omega) (by omega) (by omega) (by omega) (by omega), F5⟩
        exact AllReady.nil
      refine AllReady.cons rfl (fun K hK => ?_) ?_
      · go_simp
        refine hK _ _ ?_
        clear hK K
        refine gen_alloc (K := fun w => wpAny _ _ _ _ _ _ _ w) ?_
        intro w3 c3 k3 s3
        refine wpAny_ready (rs := [7]) (by kernel_rfl) (by simp) ?_
        refine AllReady.cons rfl (fun K hK => ?_) ?_
        · have HC := Lib.hid (HRP.out w3 w0.heap.size (by unfold World.cell?; simp only [(((Below.up k2 k3).block _ s1).trans c1)]; rfl) (by unfold World.cell?; simp only [(((Below.up k2 k3).block _ s1).trans c1)]; rfl))
          go_simp
          refine HC.out.mono ?_
          clear HC
          rintro e w4 ⟨gM, rfl, q4, c4, k4⟩
          have s4 := heap_lt c4
          go_simp
          refine hK _ _ ?_
          clear hK K
          refine wpAny_take (i := 11) (v := .agg #[.slice (some ⟨w1.heap.size, 0, none⟩) T T, .slice (some ⟨gM, 0, none⟩) M M, .slice (some ⟨w2.heap.size, 0, none⟩) C C]) rfl (by kernel_rfl) (by kernel_rfl) (by kernel_rfl) (fun _ _ _ h => h) (Or.inl ⟨by rfl, ?_⟩) ?_
          · intro w
            go_simp
          refine wpAny_ready (rs := [12]) (by kernel_rfl) (by simp) ?_
          refine AllReady.cons rfl (fun K hK => ?_) AllReady.nil
          go_simp
          refine hK _ _ ?_
          clear hK K
          refine gen_alloc (K := fun w => wpAny _ _ _ _ _ _ _ w) ?_
          intro w5 c5 k5 s5
          refine wpAny_take (i := 13) (v := .pointer (some ⟨w4.heap.size, 0, none⟩)) rfl (by kernel_rfl) (by kernel_rfl) (by kernel_rfl) (fun _ _ _ h => h) (Or.inl ⟨by rfl, ?_⟩) ?_
          · intro w
            go_simp
          refine wpAny_done (by kernel_rfl) ?_ _
          have F1 := Lib.hid (((Below.up (Below.up k3 k4) k5).block _ s2).trans c2)
          have F2 := Lib.hid ((k5.block _ s4).trans c4)
          have F3 := Lib.hid (((Below.up k4 k5).block _ s3).trans c3)
          have F4 := Lib.hid c5
          have F5 : Below w.heap.size w w5 := (Below.up k0 (Below.up (Below.up (Below.up (Below.up k1 k2) k3) k4) k5))
          have y0 := k0.size
          have y1 := k1.size
          have y2 := k2.size
          have y3 := k3.size
          have y4 := k4.size
          have y5 := k5.size
          clear c1 c2 c3 c4 c5 hm1 hm2
          go_wp2_with fail
          go_ret
          exact ⟨_, rfl, new_sch T M C w4.heap.size w1.heap.size gM w2.heap.size F5 F1.out F2.out F3.out F4.out (by omega) (by omega) (by omega) (by omega) (by omega) (by omega) (by omega) (by omega) (by omega) (by omega), F5⟩
        exact AllReady.nil
      exact AllReady.nil
    refine AllReady.cons rfl (fun K hK => ?_) ?_
    · have HC := Lib.hid (HRP.out w1 w0.heap.size (by unfold World.cell?; simp only [c1]; rfl) (by unfold World.cell?; simp only [c1]; rfl))
      go_simp
      refine HC.out.mono ?_
      clear HC
      rintro e w2 ⟨gM, rfl, q2, c2, k2⟩
      have s2 := heap_lt c2
      go_simp
      refine hK _ _ ?_
      clear hK K
      refine wpAny_ready (rs := [2, 10]) (by kernel_rfl) (by simp) ?_
      refine AllReady.cons rfl (fun K hK => ?_) ?_
      · go_simp
        refine hK _ _ ?_
        clear hK K
        refine gen_alloc (K := fun w => wpAny _ _ _ _ _ _ _ w) ?_
        intro w3 c3 k3 s3
        refine wpAny_ready (rs := [10]) (by kernel_rfl) (by simp) ?_
        refine AllReady.cons rfl (fun K hK => ?_) ?_
        · go_simp
          refine hK _ _ ?_
          clear hK K
          refine gen_alloc (K := fun w => wpAny _ _ _ _ _ _ _ w) ?_
          intro w4 c4 k4 s4
          refine wpAny_take (i := 11) (v := .agg #[.slice (some ⟨w2.heap.size, 0, none⟩) T T, .slice (some ⟨gM, 0, none⟩) M M, .slice (some ⟨w3.heap.size, 0, none⟩) C C]) rfl (by kernel_rfl) (by kernel_rfl) (by kernel_rfl) (fun _ _ _ h => h) (Or.inl ⟨by rfl, ?_⟩) ?_
          · intro w
            go_simp
          refine wpAny_ready (rs := [12]) (by kernel_rfl) (by simp) ?_
          refine AllReady.cons rfl (fun K hK => ?_) AllReady.nil
          go_simp
          refine hK _ _ ?_
          clear hK K
          refine gen_alloc (K := fun w => wpAny _ _ _ _ _ _ _ w) ?_
          intro w5 c5 k5 s5
          refine wpAny_take (i := 13) (v := .pointer (some ⟨w4.heap.size, 0, none⟩)) rfl (by kernel_rfl) (by kernel_rfl) (by kernel_rfl) (fun _ _ _ h => h) (Or.inl ⟨by rfl, ?_⟩) ?_
          · intro w
            go_simp
          refine wpAny_done (by kernel_rfl) ?_ _
          have F1 := Lib.hid (((Below.up k4 k5).block _ s3).trans c3)
          have F2 := Lib.hid (((Below.up (Below.up k3 k4) k5).block _ s2).trans c2)
          have F3 := Lib.hid ((k5.block _ s4).trans c4)
          have F4 := Lib.hid c5
          have F5 : Below w.heap.size w w5 := (Below.up k0 (Below.up (Below.up (Below.up (Below.up k1 k2) k3) k4) k5))
          have y0 := k0.size
          have y1 := k1.size
          have y2 := k2.size
          have y3 := k3.size
          have y4 := k4.size
          have y5 := k5.size
          clear c1 c2 c3 c4 c5 hm1 hm2
          go_wp2_with fail
          go_ret
          exact ⟨_, rfl, new_sch T M C w4.heap.size w2.heap.size gM w3.heap.size F5 F1.out F2.out F3.out F4.out (by omega) (by omega) (by omega) (by omega) (by omega) (by omega) (by omega) (by omega) (by omega) (by omega), F5⟩
        exact AllReady.nil
      refine AllReady.cons rfl (fun K hK => ?_) ?_
      · go_simp
        refine hK _ _ ?_
        clear hK K
        refine gen_alloc (K := fun w => wpAny _ _ _ _ _ _ _ w) ?_
        intro w3 c3 k3 s3
        refine wpAny_ready (rs := [2]) (by kernel_rfl) (by simp) ?_
        refine AllReady.cons rfl (fun K hK => ?_) ?_
        · go_simp
          refine hK _ _ ?_
          clear hK K
          refine gen_alloc (K := fun w => wpAny _ _ _ _ _ _ _ w) ?_
          intro w4 c4 k4 s4
          refine wpAny_take (i := 11) (v := .agg #[.slice (some ⟨w3.heap.size, 0, none⟩) T T, .slice (some ⟨gM, 0, none⟩) M M, .slice (some ⟨w2.heap.size, 0, none⟩) C C]) rfl (by kernel_rfl) (by kernel_rfl) (by kernel_rfl) (fun _ _ _ h => h) (Or.inl ⟨by rfl, ?_⟩) ?_
          · intro w
            go_simp
          refine wpAny_ready (rs := [12]) (by kernel_rfl) (by simp) ?_
          refine AllReady.cons rfl (fun K hK => ?_) AllReady.nil
          go_simp
          refine hK _ _ ?_
          clear hK K
          refine gen_alloc (K := fun w => wpAny _ _ _ _ _ _ _ w) ?_
          intro w5 c5 k5 s5
          refine wpAny_take (i := 13) (v := .pointer (some ⟨w4.heap.size, 0, none⟩)) rfl (by kernel_rfl) (by kernel_rfl) (by kernel_rfl) (fun _ _ _ h => h) (Or.inl ⟨by rfl, ?_⟩) ?_
          · intro w
            go_simp
          refine wpAny_done (by kernel_rfl) ?_ _
          have F1 := Lib.hid ((k5.block _ s4).trans c4)
          have F2 := Lib.hid (((Below.up (Below.up k3 k4) k5).block _ s2).trans c2)
          have F3 := Lib.hid (((Below.up k4 k5).block _ s3).trans c3)
          have F4 := Lib.hid c5
          have F5 : Below w.heap.size w w5 := (Below.up k0 (Below.up (Below.up (Below.up (Below.up k1 k2) k3) k4) k5))
          have y0 := k0.size
          have y1 := k1.size
          have y2 := k2.size
          have y3 := k3.size
          have y4 := k4.size
          have y5 := k5.size
          clear c1 c2 c3 c4 c5 hm1 hm2
          go_wp2_with fail
          go_ret
          exact ⟨_, rfl, new_sch T M C w4.heap.size w3.heap.size gM w2.heap.size F5 F1.out F2.out F3.out F4.out (by omega) (by omega) (by omega) (by omega) (by omega) (by omega) (by omega) (by omega) (by omega) (by omega), F5⟩
        exact AllReady.nil
      exact AllReady.nil
    refine AllReady.cons rfl (fun K hK => ?_) ?_
    · go_simp
      refine hK _ _ ?_
      clear hK K
      refine gen_alloc (K := fun w => wpAny _ _ _ _ _ _ _ w) ?_
      intro w2 c2 k2 s2
      refine wpAny_ready (rs := [2, 7]) (by kernel_rfl) (by simp) ?_
      refine AllReady.cons rfl (fun K hK => ?_) ?_
      · go_simp
        refine hK _ _ ?_
        clear hK K
        refine gen_alloc (K := fun w => wpAny _ _ _ _ _ _ _ w) ?_
        intro w3 c3 k3 s3
        refine wpAny_ready (rs := [7]) (by kernel_rfl) (by simp) ?_
        refine AllReady.cons rfl (fun K hK => ?_) ?_
        · have HC := Lib.hid (HRP.out w3 w0.heap.size (by unfold World.cell?; simp only [(((Below.up k2 k3).block _ s1).trans c1)]; rfl) (by unfold World.cell?; simp only [(((Below.up k2 k3).block _ s1).trans c1)]; rfl))
          go_simp
          refine HC.out.mono ?_
          clear HC
          rintro e w4 ⟨gM, rfl, q4, c4, k4⟩
          have s4 := heap_lt c4
          go_simp
          refine hK _ _ ?_
          clear hK K
          refine wpAny_take (i := 11) (v := .agg #[.slice (some ⟨w2.heap.size, 0, none⟩) T T, .slice (some ⟨gM, 0, none⟩) M M, .slice (some ⟨w1.heap.size, 0, none⟩) C C]) rfl (by kernel_rfl) (by kernel_rfl) (by kernel_rfl) (fun _ _ _ h => h) (Or.inl ⟨by rfl, ?_⟩) ?_
          · intro w
            go_simp
          refine wpAny_ready (rs := [12]) (by kernel_rfl) (by simp) ?_
          refine AllReady.cons rfl (fun K hK => ?_) AllReady.nil
          go_simp
          refine hK _ _ ?_
          clear hK K
          refine gen_alloc (K := fun w => wpAny _ _ _ _ _ _ _ w) ?_
          intro w5 c5 k5 s5
          refine wpAny_take (i := 13) (v := .pointer (some ⟨w4.heap.size, 0, none⟩)) rfl (by kernel_rfl) (by kernel_rfl) (by kernel_rfl) (fun _ _ _ h => h) (Or.inl ⟨by rfl, ?_⟩) ?_
          · intro w
            go_simp
          refine wpAny_done (by kernel_rfl) ?_ _
          have F1 := Lib.hid (((Below.up k4 k5).block _ s3).trans c3)
          have F2 := Lib.hid ((k5.block _ s4).trans c4)
          have F3 := Lib.hid (((Below.up (Below.up k3 k4) k5).block _ s2).trans c2)
          have F4 := Lib.hid c5
          have F5 : Below w.heap.size w w5 := (Below.up k0 (Below.up (Below.up (Below.up (Below.up k1 k2) k3) k4) k5))
          have y0 := k0.size
          have y1 := k1.size
          have y2 := k2.size
          have y3 := k3.size
          have y4 := k4.size
          have y5 := k5.size
          clear c1 c2 c3 c4 c5 hm1 hm2
          go_wp2_with fail
          go_ret
          exact ⟨_, rfl, new_sch T M C w4.heap.size w2.heap.size gM w1.heap.size F5 F1.out F2.out F3.out F4.out (by omega) (by omega) (by omega) (by omega) (by omega) (by omega) (by omega) (by omega) (by omega) (by omega), F5⟩
        exact AllReady.nil
      refine AllReady.cons rfl (fun K hK => ?_) ?_
      · have HC := Lib.hid (HRP.out w2 w0.heap.size (by unfold World.cell?; simp only [((k2.block _ s1).trans c1)]; rfl) (by unfold World.cell?; simp only [((k2.block _ s1).trans c1)]; rfl))
        go_simp
        refine HC.out.mono ?_
        clear HC
        rintro e w3 ⟨gM, rfl, q3, c3, k3⟩
        have s3 := heap_lt c3
        go_simp
        refine hK _ _ ?_
        clear hK K
        refine wpAny_ready (rs := [2]) (by kernel_rfl) (by simp) ?_
        refine AllReady.cons rfl (fun K hK => ?_) ?_
        · go_simp
          refine hK _ _ ?_
          clear hK K
          refine gen_alloc (K := fun w => wpAny _ _ _ _ _ _ _ w) ?_
          intro w4 c4 k4 s4
          refine wpAny_take (i := 11) (v := .agg #[.slice (some ⟨w3.heap.size, 0, none⟩) T T, .slice (some ⟨gM, 0, none⟩) M M, .slice (some ⟨w1.heap.size, 0, none⟩) C C]) rfl (by kernel_rfl) (by kernel_rfl) (by kernel_rfl) (fun _ _ _ h => h) (Or.inl ⟨by rfl, ?_⟩) ?_
          · intro w
            go_simp
          refine wpAny_ready (rs := [12]) (by kernel_rfl) (by simp) ?_
          refine AllReady.cons rfl (fun K hK => ?_) AllReady.nil
          go_simp
          refine hK _ _ ?_
          clear hK K
          refine gen_alloc (K := fun w => wpAny _ _ _ _ _ _ _ w) ?_
          intro w5 c5 k5 s5
          refine wpAny_take (i := 13) (v := .pointer (some ⟨w4.heap.size, 0, none⟩)) rfl (by kernel_rfl) (by kernel_rfl) (by kernel_rfl) (fun _ _ _ h => h) (Or.inl ⟨by rfl, ?_⟩) ?_
          · intro w
            go_simp
          refine wpAny_done (by kernel_rfl) ?_ _
          have F1 := Lib.hid ((k5.block _ s4).trans c4)
          have F2 := Lib.hid (((Below.up k4 k5).block _ s3).trans c3)
          have F3 := Lib.hid (((Below.up (Below.up k3 k4) k5).block _ s2).trans c2)
          have F4 := Lib.hid c5
          have F5 : Below w.heap.size w w5 := (Below.up k0 (Below.up (Below.up (Below.up (Below.up k1 k2) k3) k4) k5))
          have y0 := k0.size
          have y1 := k1.size
          have y2 := k2.size
          have y3 := k3.size
          have y4 := k4.size
          have y5 := k5.size
          clear c1 c2 c3 c4 c5 hm1 hm2
          go_wp2_with fail
          go_ret
          exact ⟨_, rfl, new_sch T M C w4.heap.size w3.heap.size gM w1.heap.size F5 F1.out F2.out F3.out F4.out (by omega) (by omega) (by omega) (by omega) (by omega) (by omega) (by omega) (by omega) (by omega) (by omega), F5⟩
        exact AllReady.nil
      exact AllReady.nil
    exact AllReady.nil
  refine AllReady.cons rfl (fun K hK => ?_) ?_
  · go_simp
    refine hK _ _ ?_
    clear hK K
    refine gen_alloc (K := fun w => wpAny _ _ _ _ _ _ _ w) ?_
    intro w1 c1 k1 s1
    refine wpAny_ready (rs := [2, 4]) (by kernel_rfl) (by simp) ?_
    refine AllReady.cons rfl (fun K hK => ?_) ?_
    · go_simp
      refine hK _ _ ?_
      clear hK K
      refine gen_alloc (K := fun w => wpAny _ _ _ _ _ _ _ w) ?_
      intro w2 c2 k2 s2
      refine wpAny_ready (rs := [4]) (by kernel_rfl) (by simp) ?_
      refine AllReady.cons rfl (fun K hK => ?_) ?_
      · go_simp
        refine hK _ _ ?_
        clear hK K
        refine gen_alloc (K := fun w => wpAny _ _ _ _ _ _ _ w) ?_
        intro w3 c3 k3 s3
        refine wpAny_ready (rs := [7]) (by kernel_rfl) (by simp) ?_
        refine AllReady.cons rfl (fun K hK => ?_) ?_
        · have HC := Lib.hid (HRP.out w3 w2.heap.size (by unfold World.cell?; simp only [c3]; rfl) (by unfold World.cell?; simp only [c3]; rfl))
          go_simp
          refine HC.out.mono ?_
          clear HC
          rintro e w4 ⟨gM, rfl, q4, c4, k4⟩
          have s4 := heap_lt c4
          go_simp
          refine hK _ _ ?_
          clear hK K
          refine wpAny_take (i := 11) (v := .agg #[.slice (some ⟨w1.heap.size, 0, none⟩) T T, .slice (some ⟨gM, 0, none⟩) M M, .slice (some ⟨w0.heap.size, 0, none⟩) C C]) rfl (by kernel_rfl) (by kernel_rfl) (by kernel_rfl) (fun _ _ _ h => h) (Or.inl ⟨by rfl, ?_⟩) ?_
          · intro w
            go_simp
          refine wpAny_ready (rs := [12]) (by kernel_rfl) (by simp) ?_
          refine AllReady.cons rfl (fun K hK => ?_) AllReady.nil
          go_simp
          refine hK _ _ ?_
          clear hK K
          refine gen_alloc (K := fun w => wpAny _ _ _ _ _ _ _ w) ?_
          intro w5 c5 k5 s5
          refine wpAny_take (i := 13) (v := .pointer (some ⟨w4.heap.size, 0, none⟩)) rfl (by kernel_rfl) (by kernel_rfl) (by kernel_rfl) (fun _ _ _ h => h) (Or.inl ⟨by rfl, ?_⟩) ?_
          · intro w
            go_simp
          refine wpAny_done (by kernel_rfl) ?_ _
          have F1 := Lib.hid (((Below.up (Below.up k3 k4) k5).block _ s2).trans c2)
          have F2 := Lib.hid ((k5.block _ s4).trans c4)
          have F3 := Lib.hid (((Below.up (Below.up (Below.up k2 k3) k4) k5).block _ s1).trans c1)
          have F4 := Lib.hid c5
          have F5 : Below w.heap.size w w5 := (Below.up k0 (Below.up (Below.up (Below.up (Below.up k1 k2) k3) k4) k5))
          have y0 := k0.size
          have y1 := k1.size
          have y2 := k2.size
          have y3 := k3.size
          have y4 := k4.size
          have y5 := k5.size
          clear c1 c2 c3 c4 c5 hm1 hm2
          go_wp2_with fail
          go_ret
          exact ⟨_, rfl, new_sch T M C w4.heap.size w1.heap.size gM w0.heap.size F5 F1.out F2.out F3.out F4.out (by omega) (by omega) (by omega) (by omega) (by omega) (by omega) (by omega) (by omega) (by omega) (by omega), F5⟩
        exact AllReady.nil
      exact AllReady.nil
    refine AllReady.cons rfl (fun K hK => ?_) ?_
    · go_simp
      refine hK _ _ ?_
      clear hK K
      refine gen_alloc (K := fun w => wpAny _ _ _ _ _ _ _ w) ?_
      intro w2 c2 k2 s2
      refine wpAny_ready (rs := [2, 7]) (by kernel_rfl) (by simp) ?_
      refine AllReady.cons rfl (fun K hK => ?_) ?_
      · go_simp
        refine hK _ _ ?_
        clear hK K
        refine gen_alloc (K := fun w => wpAny _ _ _ _ _ _ _ w) ?_
        intro w3 c3 k3 s3
        refine wpAny_ready (rs := [7]) (by kernel_rfl) (by simp) ?_
        refine AllReady.cons rfl (fun K hK => ?_) ?_
        · have HC := Lib.hid (HRP.out w3 w1.heap.size (by unfold World.cell?; simp only [((k3.block _ s2).trans c2)]; rfl) (by unfold World.cell?; simp only [((k3.block _ s2).trans c2)]; rfl))
          go_simp
          refine HC.out.mono ?_
          clear HC
          rintro e w4 ⟨gM, rfl, q4, c4, k4⟩
          have s4 := heap_lt c4
          go_simp
          refine hK _ _ ?_
          clear hK K
          refine wpAny_take (i := 11) (v := .agg #[.slice (some ⟨w2.heap.size, 0, none⟩) T T, .slice (some ⟨gM, 0, none⟩) M M, .slice (some ⟨w0.heap.size, 0, none⟩) C C]) rfl (by kernel_rfl) (by kernel_rfl) (by kernel_rfl) (fun _ _ _ h => h) (Or.inl ⟨by rfl, ?_⟩) ?_
          · intro w
            go_simp
          refine wpAny_ready (rs := [12]) (by kernel_rfl) (by simp) ?_
          refine AllReady.cons rfl (fun K hK => ?_) AllReady.nil
          go_simp
          refine hK _ _ ?_
          clear hK K
          refine gen_alloc (K := fun w => wpAny _ _ _ _ _ _ _ w) ?_
          intro w5 c5 k5 s5
          refine wpAny_take (i := 13) (v := .pointer (some ⟨w4.heap.size, 0, none⟩)) rfl (by kernel_rfl) (by kernel_rfl) (by kernel_rfl) (fun _ _ _ h => h) (Or.inl ⟨by rfl, ?_⟩) ?_
          · intro w
            go_simp
          refine wpAny_done (by kernel_rfl) ?_ _
          have F1 := Lib.hid (((Below.up k4 k5).block _ s3).trans c3)
          have F2 := Lib.hid ((k5.block _ s4).trans c4)
          have F3 := Lib.hid (((Below.up (Below.up (Below.up k2 k3) k4) k5).block _ s1).trans c1)
          have F4 := Lib.hid c5
          have F5 : Below w.heap.size w w5 := (Below.up k0 (Below.up (Below.up (Below.up (Below.up k1 k2) k3) k4) k5))
          have y0 := k0.size
          have y1 := k1.size
          have y2 := k2.size
          have y3 := k3.size
          have y4 := k4.size
          have y5 := k5.size
          clear c1 c2 c3 c4 c5 hm1 hm2
          go_wp2_with fail
          go_ret
          exact ⟨_, rfl, new_sch T M C w4.heap.size w2.heap.size gM w0.heap.size F5 F1.out F2.out F3.out F4.out (by omega) (by omega) (by omega) (by omega) (by omega) (by omega) (by omega) (by omega) (by omega) (by omega), F5⟩
        exact AllReady.nil
      refine AllReady.cons rfl (fun K hK => ?_) ?_
      · have HC := Lib.hid (HRP.out w2 w1.heap.size (by unfold World.cell?; simp only [c2]; rfl) (by unfold World.cell?; simp only [c2]; rfl))
        go_simp
        refine HC.out.mono ?_
        clear HC
        rintro e w3 ⟨gM, rfl, q3, c3, k3⟩
        have s3 := heap_lt c3
        go_simp
        refine hK _ _ ?_
        clear hK K
        refine wpAny_ready (rs := [2]) (by kernel_rfl) (by simp) ?_
        refine AllReady.cons rfl (fun K hK => ?_) ?_
        · go_simp
          refine hK _ _ ?_
          clear hK K
          refine gen_alloc (K := fun w => wpAny _ _ _ _ _ _ _ w) ?_
          intro w4 c4 k4 s4
          refine wpAny_take (i := 11) (v := .agg #[.slice (some ⟨w3.heap.size, 0, none⟩) T T, .slice (some ⟨gM, 0, none⟩) M M, .slice (some ⟨w0.heap.size, 0, none⟩) C C]) rfl (by kernel_rfl) (by kernel_rfl) (by kernel_rfl) (fun _ _ _ h => h) (Or.inl ⟨by rfl, ?_⟩) ?_
          · intro w
            go_simp
          refine wpAny_ready (rs := [12]) (by kernel_rfl) (by simp) ?_
          refine AllReady.cons rfl (fun K hK => ?_) AllReady.nil
          go_simp
          refine hK _ _ ?_
          clear hK K
          refine gen_alloc (K := fun w => wpAny _ _ _ _ _ _ _ w) ?_
          intro w5 c5 k5 s5
          refine wpAny_take (i := 13) (v := .pointer (some ⟨w4.heap.size, 0, none⟩)) rfl (by kernel_rfl) (by kernel_rfl) (by kernel_rfl) (fun _ _ _ h => h) (Or.inl ⟨by rfl, ?_⟩) ?_
          · intro w
            go_simp
          refine wpAny_done (by kernel_rfl) ?_ _
          have F1 := Lib.hid ((k5.block _ s4).trans c4)
          have F2 := Lib.hid (((Below.up k4 k5).block _ s3).trans c3)
          have F3 := Lib.hid (((Below.up (Below.up (Below.up k2 k3) k4) k5).block _ s1).trans c1)
          have F4 := Lib.hid c5
          have F5 : Below w.heap.size w w5 := (Below.up k0 (Below.up (Below.up (Below.up (Below.up k1 k2) k3) k4) k5))
          have y0 := k0.size
          have y1 := k1.size
          have y2 := k2.size
          have y3 := k3.size
          have y4 := k4.size
          have y5 := k5.size
          clear c1 c2 c3 c4 c5 hm1 hm2
          go_wp2_with fail
          go_ret
          exact ⟨_, rfl, new_sch T M C w4.heap.size w3.heap.size gM w0.heap.size F5 F1.out F2.out F3.out F4.out (by omega) (by omega) (by omega) (by omega) (by omega) (by omega) (by omega) (by omega) (by omega) (by omega), F5⟩
        exact AllReady.nil
      exact AllReady.nil
    exact AllReady.nil
  exact AllReady.nil
theorem new_any (w : World) (t m c : Int) (ht : t ≤ 1000) (hm : m ≤ 1000) (hc : c ≤ 1000) :
    Calls Try.prog 9 #[.int .i64 t, .int .i64 m, .int .i64 c] w fun e w' => ∃ g, e = .returned (.pointer (some ⟨g, 0, none⟩)) ∧ Sch w' w.heap.size g (fun k => w.heap.size ≤ k ∧ k < w'.heap.size) (newS t m c) ∧ Below w.heap.size w w' := by
  have h := new_nat w t m c t.toNat m.toNat c.toNat (by omega) (by omega) (by omega) (by omega) (by omega) (by omega)
  have e : newS (t.toNat : Int) (m.toNat : Int) (c.toNat : Int) = newS t m c := by simp [newS]; omega
  rw [e] at h
  exact h
end Go.Proofs.Ytcfkmhmgappckaa
