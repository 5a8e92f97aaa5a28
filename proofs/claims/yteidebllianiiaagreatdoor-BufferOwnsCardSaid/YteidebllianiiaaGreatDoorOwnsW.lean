/- BufferOwns, walked. Condition: none but what every input has. -/
import Derived.Test.YteidebllianiiaaGreatDoorSpoil
set_option linter.unusedVariables false
set_option linter.unusedSimpArgs false
namespace Go.Proofs.YteidebllianiiaaGreatDoor
open Go.RowKit Go.Proofs.YteidebllianiiaaGreatDoor.PAll Go.Proofs.YteidebllianiiaaGreatDoorW.PrintWords Go.Proofs.YteidebllianiiaaGreatDoorW.PrintLast Go.Proofs.YteidebllianiiaaGreatDoorW.PrintMore

theorem addr_off (g k s j : Nat) : (⟨((⟨g, 0, none⟩ : Addr).add (k * s)).block, ((⟨g, 0, none⟩ : Addr).add (k * s)).off + j, none⟩ : Addr) = ⟨g, k * s + j, none⟩ := by
  rw [Addr.add_lit]
  simp
theorem meas1 {n k : Nat} (h : k < n) : n - ((k : Int) + 1).toNat < n - ((k : Nat) : Int).toNat := by omega
theorem meas2 {n k : Nat} (h : k < n) : n - (((k + 1 : Nat) : Int)).toNat < n - ((k : Nat) : Int).toNat := by omega
theorem infoF : (Tryz.prog.info? 50).map (fun i => (i.zero, i.size, i.bytes)) = some (some (.agg #[.string ByteArray.empty, .string ByteArray.empty]), k50.sz, 32) := info50
def OwnR12.T : Bool × List (List Nat × List Nat) := (true, [([], []), ([0], [0]), ([1], [1]), ([], []), ([], []), ([3, 4], [3, 4]), ([5], [5]), ([6], [6]), ([7], [7]), ([2, 8], [2, 8]), ([0, 1, 2, 3, 4, 5, 6, 7, 8, 9], []), ([10, 0, 1, 2, 3, 4, 5, 6, 7, 8, 9], [10]), ([11, 9, 9, 0, 1, 2, 3, 4, 5, 6, 7, 8, 9], [9, 11])])
def OwnR12.B : List Nat := [0, 1, 3, 0, 0, 24, 56, 120, 248, 511, 1023, 2047, 4095]
theorem OwnR12.tab : rtab .any (opsOf Tryz.f5 12) = OwnR12.T := by kernel_rfl
theorem OwnR12.bits : waitsOk OwnR12.T.2 OwnR12.B = true := by kernel_rfl
set_option maxHeartbeats 4000000 in
set_option maxRecDepth 100000 in
theorem owns_any (A0 : Option Addr) (c0 : Nat) (src : List S31) (w : World) (hr0 : Kd.C k31 w A0 src.length src) (hc0 : src.length ≤ c0) (hl : src.length ≤ 9223372036854775807) (hd : ∀ q ∈ src, q.f1.length ≤ 9223372036854775807 ∧ ∀ f ∈ q.f1, f.f0.size ≤ 9223372036854775807) :
    Calls Tryz.prog 5 #[.slice A0 src.length c0] w fun e w' => e = .returned (.bool true) ∧ Below w.heap.size w w' := by
  obtain ⟨g, hg, hM⟩ := good9_ev src 0 1 5 (by omega) (by omega) hl hd
  obtain ⟨kg, hkg⟩ := hg
  have hgood := fun w1 : World => fun h1 : Kd.C k31 w1 A0 src.length src => concordanceref09_Good.calls kg A0 c0 src 5 0 1 g w1 h1 hc0 (hkg kg (Nat.le_refl _))
  have HGOOD := Lib.hid hgood
  have HM := Lib.hid hM
  have HR0 := Lib.hid hr0
  clear hgood hM hr0 hkg hl hd hc0
  go_enter Tryz.func5, Tryz.ntmps5
  go_upto_region 2 with (go_at_call 7; refine (bnew_any _).mono ?_; rintro e w1 ⟨b, rfl, hB, hb1⟩)
  have HB1 := Lib.hid hb1
  have BB := Lib.hid hB
  clear hB hb1
  go_upto_region 5 with (go_at_call 8; refine (HGOOD.out w1 (Kd.C_below HR0.out HB1.out)).mono ?_; rintro e w2 ⟨gv, rfl, hgv, hb2⟩; obtain ⟨Ag, cg, rfl⟩ := Kd.R_slice (Kd.S_R hgv))
  go_upto_region 7 with (go_at_call 8; refine (HGOOD.out w2 (Kd.C_below (Kd.C_below HR0.out HB1.out) hb2)).mono ?_; rintro e w3 ⟨kv, rfl, hkv, hb3⟩; obtain ⟨Ak, ck, rfl⟩ := Kd.R_slice (Kd.S_R hkv))
  obtain ⟨K0, hK0⟩ : ∃ K0, K0 = Also (fun k => k < w.heap.size) w1 w3 := ⟨_, rfl⟩
  have hb13 : Below w1.heap.size w1 w3 := hb2.trans (hb3.mono hb2.size)
  have hz2 := hb2.size
  have hz3 := hb3.size
  have hG0 : Kd.R k33 33 w3 0 K0 (.slice Ag g.length cg) g := Kd.R_lower (Kd.R_mono (Kd.R_below (Kd.R_bound (Kd.S_R hgv)) hb3) (fun k hk => by rw [hK0]; exact .inr ⟨hk.2.1, by have := hk.2.2.1; omega⟩)) (Nat.zero_le _)
  have hV0 : Kd.R k33 33 w3 0 K0 (.slice Ak g.length ck) g := Kd.R_lower (Kd.R_mono (Kd.R_bound (Kd.S_R hkv)) (fun k hk => by rw [hK0]; exact .inr ⟨by have := hk.2.1; omega, hk.2.2.1⟩)) (Nat.zero_le _)
  have hB3 : Buf K0 b [] (-1) w3 := by rw [hK0]; exact BB.out.also hb13
  have hKw : ∀ k, k < w.heap.size → K0 k := fun k hk => by rw [hK0]; exact .inl hk
  have hKl : ∀ k, K0 k → k < w3.heap.size := fun k hk => by
    rw [hK0] at hk
    rcases hk with hk | hk
    · have := HB1.out.size; omega
    · exact hk.2
  have G3 := Lib.hid hG0
  have V3 := Lib.hid hV0
  have B3 := Lib.hid hB3
  have KW := Lib.hid hKw
  have KL := Lib.hid hKl
  have HB3 := Lib.hid (HB1.out.trans (hb13.mono HB1.out.size))
  have hgl : g.length ≤ 5 := by rw [HM.out.len]; omega
  clear hK0 hG0 hV0 hB3 hKw hKl hgv hkv hb2 hb3 hb13 BB HB1 HGOOD HR0 hz2 hz3
  go_loopw [6] (fun v6 wr => ∃ i : Nat, v6 = .int .i64 (i : Int) ∧ i ≤ g.length ∧ Buf K0 b (g.take i) (lastA 0 1 i) wr ∧ Moves (fun k => ¬ K0 k) w3 wr) (fun v6 _ => g.length - (intOf v6).toNat)
  case atStart => exact ⟨0, rfl, by omega, B3.out, Moves.refl _ _⟩
  case round =>
    obtain ⟨i, rfl, hi, hBr, hmr⟩ := hrel
    obtain ⟨W0, hW0⟩ : ∃ W, W = wr := ⟨_, rfl⟩
    rw [← hW0] at hBr hmr ⊢
    clear hW0 wr
    by_cases hlt : i < g.length
    · have d1 : decide ((i : Int) < (g.length : Int)) = true := decide_eq_true (by omega)
      have g0 : decide ((0 : Int) ≤ (i : Int)) = true := decide_eq_true (by omega)
      have hsq := made_seq HM.out (by omega) (by omega) i (by omega)
      have htl : (g.take i).length < 1000 := by rw [List.length_take]; omega
      have hfi := HM.out.fit _ (List.getElem_mem hlt)
      obtain ⟨ag, A1, q1, rfl, k0, k1, k2, k3⟩ := ent_at (hmr.row G3.out) i hlt
      have htk : g.take (i + 1) = g.take i ++ [g[i]] := List.take_succ_eq_append_getElem (by omega)
      obtain ⟨p, hp⟩ : ∃ p, p = g[i] := ⟨_, rfl⟩
      rw [← hp] at k0 k1 k2 k3 htk hsq hfi
      obtain ⟨⟨pd, pp⟩, ps⟩ := p
      have hppl : pp.length ≤ 10 := hfi.short.1
      have HFI := Lib.hid hfi
      have HMR := Lib.hid hmr
      have HBR := Lib.hid hBr
      have HLT := Lib.hid hlt
      have HTK := Lib.hid htk
      have HSQ := Lib.hid hsq
      have K3 := Lib.hid k3
      clear hmr hBr hlt htk hsq hfi hp k3
      go_upto_region 10 with fail
      obtain ⟨W1, hW1⟩ : ∃ x, x = W0.alloc (.cells #[.int .i64 0, .slice none 0 0, .int .i64 0] 33) := ⟨_, rfl⟩
      rw [← hW1]
      have hbk : W1.heap[W0.heap.size]? = some (.cells #[.int .i64 0, .slice none 0 0, .int .i64 0] 33 (0, 0)) := by rw [hW1]; exact heap_alloc_new W0 _
      have hb1 : Below W0.heap.size W0 W1 := by rw [hW1]; exact below_alloc (Below.refl _ _) _ (Nat.le_refl _)
      have hz1 : W1.heap.size = W0.heap.size + 1 := by rw [hW1]; simp
      have y0 := cell_stay2 hb1 k0
      have y1 := cell_stay2 hb1 k1
      have y2 := cell_stay2 hb1 k2
      have x0 : W1.cell? ⟨W0.heap.size, 0, none⟩ = some (.int .i64 0) := (blk_cell hbk 0).trans rfl
      have x1 : W1.cell? ⟨W0.heap.size, 1, none⟩ = some (.slice none 0 0) := (blk_cell hbk 1).trans rfl
      have x2 : W1.cell? ⟨W0.heap.size, 2, none⟩ = some (.int .i64 0) := (blk_cell hbk 2).trans rfl
      have f0 : W1.frozen? ⟨W0.heap.size, 0, none⟩ = false := blk_frozen hbk 0
      have f2 : W1.frozen? ⟨W0.heap.size, 2, none⟩ = false := blk_frozen hbk 2
      have HBK := Lib.hid hbk
      have HB1 := Lib.hid hb1
      have n0 : (ag.add (i * 3)).block ≠ W0.heap.size := fun e => by have := World.block_lt_of_cell? W0 _ k0; omega
      clear hW1 hbk hb1 k0 k1 k2
      go_upto_region 11 with fail
      obtain ⟨W2, hW2⟩ : ∃ x, x = W1.setCell ⟨W0.heap.size, 0, none⟩ (.int .i64 pd) := ⟨_, rfl⟩
      rw [← hW2]
      have b2 : W2.heap[W0.heap.size]? = some (.cells #[.int .i64 pd, .slice none 0 0, .int .i64 0] 33 (0, 0)) := by rw [hW2]; exact blk_put HBK.out 0 _ rfl
      have z1 : W2.cell? ⟨(ag.add (i * 3)).block, (ag.add (i * 3)).off + 1, none⟩ = some (.slice A1 pp.length q1) := by rw [hW2]; exact (cell_far n0 _).trans y1
      have z2 : W2.cell? ⟨(ag.add (i * 3)).block, (ag.add (i * 3)).off + 2, none⟩ = some (.int .i64 ps) := by rw [hW2]; exact (cell_far n0 _).trans y2
      have e2 : W2.cell? ⟨W0.heap.size, 2, none⟩ = some (.int .i64 0) := (blk_cell b2 2).trans rfl
      have g2 : W2.frozen? ⟨W0.heap.size, 2, none⟩ = false := blk_frozen b2 2
      have hb2 : Below W0.heap.size W0 W2 := by rw [hW2]; exact HB1.out.setCell (Nat.le_refl _) _
      have hz2 : W2.heap.size = W0.heap.size + 1 := by rw [hW2, setCell_size]; exact hz1
      have HBK2 := Lib.hid b2
      have HB2 := Lib.hid hb2
      clear hW2 b2 hb2 y0 y1 y2 x0 x1 x2 f0 f2 HBK HB1 hz1
      go_upto_region 12 with fail
      obtain ⟨W3', hW3⟩ : ∃ x, x = W2.setCell ⟨W0.heap.size, 2, none⟩ (.int .i64 ps) := ⟨_, rfl⟩
      rw [← hW3]
      obtain ⟨W4, hW4⟩ : ∃ x, x = W3'.drew := ⟨_, rfl⟩
      have b4 : W4.heap[W0.heap.size]? = some (.cells #[.int .i64 pd, .slice none 0 0, .int .i64 ps] 33 (0, 0)) := by rw [hW4, hW3]; exact blk_put HBK2.out 2 _ rfl
      have hb4 : Below W0.heap.size W0 W4 := by rw [hW4, hW3]; exact below_drew1 (HB2.out.setCell (Nat.le_refl _) _)
      have hz4 : W4.heap.size = W0.heap.size + 1 := by rw [hW4, hW3]; show (W2.setCell _ _).heap.size = _; rw [setCell_size]; exact hz2
      have u1 : W4.cell? ⟨(ag.add (i * 3)).block, (ag.add (i * 3)).off + 1, none⟩ = some (.slice A1 pp.length q1) := by rw [hW4, hW3]; exact (cell_far n0 _).trans z1
      have u0 : W4.cell? ⟨W0.heap.size, 1, none⟩ = some (.slice none 0 0) := (blk_cell b4 1).trans rfl
      have C4 := Lib.hid (Kd.C_below (Kd.R_reads' K3.out).2.2 hb4)
      have HBK4 := Lib.hid b4
      have HB4 := Lib.hid hb4
      have HW4 := Lib.hid hW4
      clear z1 z2 e2 g2 hW3 hW4 b4 hb4 HBK2 HB2 hz2
      refine start_ (n := 13) (S := fun w' => (w'.cell? ⟨W0.heap.size, 1, none⟩ = some (.slice none 0 0)) ∧ (w'.cell? ⟨(ag.add (i * 3)).block, (ag.add (i * 3)).off + 1, none⟩ = some (.slice A1 pp.length q1))) (ds := [12]) #[false, false, false, false, false, false, false, false, false, false, false, false, false] (by kernel_rfl) rfl rfl (by rw [← HW4.out]; exact ⟨u0, u1⟩) (fun hHeld => ?_); refine with_tabW OwnR12.tab OwnR12.bits (fun HT_ HW_ => ?_)
      refine pure_ (i := 0) (N := some 43) (v := ?_) (a' := ?_) #[true, false, false, false, false, false, false, false, false, false, false, false, false] rfl rfl (any_of HT_.out (by kernel_rfl)) (fun _ _ _ h => h) (Or.inl ⟨by rfl, ?_⟩) ?_ ?_
      rotate_left
      · intro w'
        go_simp
        with_reducible rfl
      rotate_left
      · simp only [Act.put, List.setIfInBounds_toArray, List.set_cons_zero, List.set_cons_succ, i64_w, i32_w]
        rfl
      refine pure_ (i := 1) (N := some 44) (v := ?_) (a' := ?_) #[true, true, false, false, false, false, false, false, false, false, false, false, false] rfl rfl (any_of HT_.out (by kernel_rfl)) (fun _ _ _ h => h) (Or.inl ⟨by rfl, ?_⟩) ?_ ?_
      rotate_left
      · intro w'
        go_simp
        with_reducible rfl
      rotate_left
      · simp only [Act.put, List.setIfInBounds_toArray, List.set_cons_zero, List.set_cons_succ, i64_w, i32_w]
        rfl
      refine pure_ (i := 3) (N := some 46) (v := ?_) (a' := ?_) #[true, true, false, true, false, false, false, false, false, false, false, false, false] rfl rfl (any_of HT_.out (by kernel_rfl)) (fun _ _ _ h => h) (Or.inl ⟨by rfl, ?_⟩) ?_ ?_
      rotate_left
      · intro w'
        go_simp
        with_reducible rfl
      rotate_left
      · simp only [Act.put, List.setIfInBounds_toArray, List.set_cons_zero, List.set_cons_succ, i64_w, i32_w]
        rfl
      refine pure_ (i := 4) (N := some 47) (v := ?_) (a' := ?_) #[true, true, false, true, true, false, false, false, false, false, false, false, false] rfl rfl (any_of HT_.out (by kernel_rfl)) (fun _ _ _ h => h) (Or.inl ⟨by rfl, ?_⟩) ?_ ?_
      rotate_left
      · intro w'
        go_simp
        with_reducible rfl
      rotate_left
      · simp only [Act.put, List.setIfInBounds_toArray, List.set_cons_zero, List.set_cons_succ, i64_w, i32_w]
        rfl
      refine pure_ (i := 5) (N := some 48) (v := ?_) (a' := ?_) #[true, true, false, true, true, true, false, false, false, false, false, false, false] rfl rfl (any_of HT_.out (by kernel_rfl)) (fun _ _ _ h => h) (Or.inl ⟨by rfl, ?_⟩) ?_ ?_
      rotate_left
      · intro w'
        go_simp
        with_reducible rfl
      rotate_left
      · simp only [Act.put, List.setIfInBounds_toArray, List.set_cons_zero, List.set_cons_succ, i64_w, i32_w]
        rfl
      refine pure_ (i := 6) (N := some 49) (v := ?_) (a' := ?_) #[true, true, false, true, true, true, true, false, false, false, false, false, false] rfl rfl (any_of HT_.out (by kernel_rfl)) (fun _ _ _ h => h) (Or.inl ⟨by rfl, ?_⟩) ?_ ?_
      rotate_left
      · intro w'
        go_simp
        with_reducible rfl
      rotate_left
      · simp only [Act.put, List.setIfInBounds_toArray, List.set_cons_zero, List.set_cons_succ, i64_w, i32_w]
        rfl
      refine pure_ (i := 7) (N := some 50) (v := ?_) (a' := ?_) #[true, true, false, true, true, true, true, true, false, false, false, false, false] rfl rfl (any_of HT_.out (by kernel_rfl)) (fun _ _ _ h => h) (Or.inl ⟨by rfl, ?_⟩) ?_ ?_
      rotate_left
      · intro w'
        go_simp
        with_reducible rfl
      rotate_left
      · simp only [Act.put, List.setIfInBounds_toArray, List.set_cons_zero, List.set_cons_succ, i64_w, i32_w]
        rfl
      refine take_ (i := 2) (N := some 45) (v := ?_) (a' := ?_) #[true, true, true, true, true, true, true, true, false, false, false, false, false] rfl rfl (take_ofW HT_.out HW_.out (by kernel_rfl)) (fun _ _ _ h => h) (Or.inl ⟨by rfl, ?_⟩) hHeld ?_ ?_
      rotate_left
      · rintro w' ⟨s0, s1⟩
        go_simp
        with_reducible rfl
      rotate_left
      · simp only [Act.put, List.setIfInBounds_toArray, List.set_cons_zero, List.set_cons_succ, i64_w, i32_w]
        rfl
      refine take_ (i := 8) (N := some 51) (v := ?_) (a' := ?_) #[true, true, true, true, true, true, true, true, true, false, false, false, false] rfl rfl (take_ofW HT_.out HW_.out (by kernel_rfl)) (fun _ _ _ h => h) (Or.inl ⟨by rfl, ?_⟩) hHeld ?_ ?_
      rotate_left
      · rintro w' ⟨s0, s1⟩
        go_simp
        with_reducible rfl
      rotate_left
      · simp only [Act.put, List.setIfInBounds_toArray, List.set_cons_zero, List.set_cons_succ, i64_w, i32_w]
        rfl
      refine one_ (i := 9) (N := some 52) #[true, true, true, true, true, true, true, true, true, true, false, false, false] rfl rfl (one_of HT_.out (by kernel_rfl)) (by decide) (fun KK hKK => ?_)
      rw [← HW4.out] at hHeld ⊢
      refine Kd.R_append_rows_step k50 (w0 := W4) W4.heap.size (by rfl) (.tmp 45) (.tmp 51) 29 50 (.agg #[.string ByteArray.empty, .string ByteArray.empty]) 32 rfl Tryz.underlying29 infoF rfl (by decide) (by decide) (.slice none 0 0) [] pp A1 pp.length q1 (fun k => W4.heap.size ≤ k) (fun _ => False) rfl rfl (Kd.R_nil _ _ _ _ _) C4.out (fun _ _ h => h) (fun _ h => h.elim) (fun _ h => h) (Below.refl _ _) (Nat.le_refl _) (by rw [List.length_nil]; omega) ?_
      intro v5 W5 hR5 hb5 _ _
      rw [List.nil_append] at hR5
      obtain ⟨A5, q5, rfl⟩ := Kd.R_slice hR5
      have b5 := (hb5.block _ (by omega)).trans HBK4.out
      have v0 := cell_stay2 hb5 u0
      have v1 := cell_stay2 hb5 u1
      have fz : W5.frozen? ⟨W0.heap.size, 1, none⟩ = false := blk_frozen b5 1
      have R5 := Lib.hid hR5
      have HB5 := Lib.hid (HB4.out.trans (hb5.mono (by omega)))
      have HBK5 := Lib.hid b5
      have hz5 := hb5.size
      clear hR5 hb5 b5
      refine hKK.out _ _ ⟨v0, v1⟩ (fun hHeld => ?_)
      clear hKK KK
      refine norm_ (a' := ?_) ?_ ?_
      rotate_left
      · show Act.put _ (some 52) _ = _
        simp only [Act.put, List.setIfInBounds_toArray, List.set_cons_zero, List.set_cons_succ, i64_w, i32_w]
        rfl
      refine pure_ (i := 10) (N := some 53) (v := ?_) (a' := ?_) #[true, true, true, true, true, true, true, true, true, true, true, false, false] rfl rfl (any_of HT_.out (by kernel_rfl)) (fun _ _ _ h => h) (Or.inl ⟨by rfl, ?_⟩) ?_ ?_
      rotate_left
      · intro w'
        go_simp
        with_reducible rfl
      rotate_left
      · simp only [Act.put, List.setIfInBounds_toArray, List.set_cons_zero, List.set_cons_succ, i64_w, i32_w]
        rfl
      refine pure_ (i := 11) (N := some 54) (v := ?_) (a' := ?_) #[true, true, true, true, true, true, true, true, true, true, true, true, false] rfl rfl (any_of HT_.out (by kernel_rfl)) (fun _ _ _ h => h) (Or.inl ⟨by rfl, ?_⟩) ?_ ?_
      rotate_left
      · intro w'
        go_simp
        with_reducible rfl
      rotate_left
      · simp only [Act.put, List.setIfInBounds_toArray, List.set_cons_zero, List.set_cons_succ, i64_w, i32_w]
        rfl
      refine last_ (i := 12) (N := none) #[true, true, true, true, true, true, true, true, true, true, true, true, true] rfl rfl (one_of HT_.out (by kernel_rfl)) (by decide) (fun KK hKK => ?_)
      refine skip_ (w1 := ?_) (by rfl) rfl ?_ ?_
      rotate_left
      · go_simp
        rfl
      refine hKK.out _ _ ?_
      clear hKK KK
      refine done_ (done_of HT_.out (by kernel_rfl)) ?_
      clear hHeld u0 u1 v0 v1
      obtain ⟨W6, hW6⟩ : ∃ x, x = W5.setCell ⟨W0.heap.size, 1, none⟩ (.slice A5 pp.length q5) := ⟨_, rfl⟩
      rw [← hW6]
      have b6 : W6.heap[W0.heap.size]? = some (.cells #[.int .i64 pd, .slice A5 pp.length q5, .int .i64 ps] 33 (0, 0)) := by rw [hW6]; exact blk_put HBK5.out 1 _ rfl
      have hb6 : Below W0.heap.size W0 W6 := by rw [hW6]; exact HB5.out.setCell (Nat.le_refl _) _
      have hz6 : W6.heap.size = W5.heap.size := by rw [hW6, setCell_size]
      have r6 : Kd.R k50 50 W6 W4.heap.size (fun k => W0.heap.size ≤ k ∧ k < W6.heap.size) (.slice A5 pp.length q5) pp := by
        have h := Kd.R_bound R5.out
        rw [hW6]
        have h2 := Kd.R_far (p := ⟨W0.heap.size, 1, none⟩) h (fun k hk e => by
          have e2 : k = W0.heap.size := e
          have := hk.1
          omega) (.slice A5 pp.length q5)
        exact Kd.R_mono h2 (fun k hk => by
          rw [setCell_size]
          exact ⟨by have := hk.1; omega, hk.2.2.1⟩)
      have hK' : ∀ k, (W0.heap.size ≤ k ∧ k < W6.heap.size) → Also K0 W0 W6 k := fun k hk => .inr hk
      have hadd := add_any (Also K0 W0 W6) b (g.take i) (lastA 0 1 i) pd ps A5 q5 pp W6 (HBR.out.also hb6) (Kd.F_mono (Kd.R_F r6) hK') (Kd.R_reads' r6).2.1 HFI.out.short.docOk (fun f hf => by have := (HFI.out.short.2 f hf).1; omega) (fun _ => HFI.out.okE) htl (by have h1 : ps = _ := HSQ.out.1; have h2 := HSQ.out.2; have h3 : 0 ≤ ps := h2.1; have h4 : ps ≤ 10200 := h2.2; omega) (0, g.take i ++ [⟨⟨pd, pp⟩, ps⟩], ps) (by
        have hm : mayN pp = 0 := HFI.out.may
        rw [hm]
        unfold addB
        rw [if_pos rfl, if_neg (by
          have h1 : ps = 0 + 1 * (i : Int) := HSQ.out.1
          have h2 := lastA_lt (start := 0) (step := 1) (by omega) i
          show ¬ ps ≤ lastA 0 1 i
          omega)])
      have c60 : W6.cell? ⟨W0.heap.size, 0, none⟩ = some (.int .i64 pd) := (blk_cell b6 0).trans rfl
      have c61 : W6.cell? ⟨W0.heap.size, 1, none⟩ = some (.slice A5 pp.length q5) := (blk_cell b6 1).trans rfl
      have c62 : W6.cell? ⟨W0.heap.size, 2, none⟩ = some (.int .i64 ps) := (blk_cell b6 2).trans rfl
      have HADD := Lib.hid hadd
      have HBK6 := Lib.hid b6
      have HB6 := Lib.hid hb6
      have R6 := Lib.hid r6
      clear hW6 b6 hb6 r6 hK' hadd HBK5 HB5 R5 fz HBK4 HB4 C4 HW4
      go_upto_region 15 with (go_at_call 9; refine HADD.out.mono ?_; rintro e w7 ⟨rfl, hB7, hm7⟩)
      have b7 := (hm7.block _ (Array.getElem?_eq_some_iff.1 HBK6.out).1 (fun z => z (.inr ⟨Nat.le_refl _, (Array.getElem?_eq_some_iff.1 HBK6.out).1⟩))).trans HBK6.out
      have r7 : Kd.R k50 50 w7 W4.heap.size (fun k => W0.heap.size ≤ k ∧ k < W6.heap.size) (.slice A5 pp.length q5) pp := Kd.R_step R6.out (fun k hk hlt => hm7.block k hlt (fun z => z (.inr hk)))
      have B7 := Lib.hid hB7
      have M7 := Lib.hid hm7
      have HBK7 := Lib.hid b7
      have R7 := Lib.hid r7
      clear hB7 hm7 b7 r7 HBK6 R6 c60 c61 c62 HADD
      go_loopw [8] (fun v8 wr => ∃ k : Nat, v8 = .int .i64 (k : Int) ∧ k ≤ pp.length ∧ Spoils (fun k => W0.heap.size ≤ k ∧ k < W6.heap.size) 50 w7 wr) (fun v8 _ => pp.length - (intOf v8).toNat)
      case atStart => exact ⟨0, rfl, by omega, Spoils.refl _ _ _⟩
      case round =>
        obtain ⟨k, rfl, hk, hsp⟩ := hrel
        obtain ⟨W8, hW8⟩ : ∃ W, W = wr := ⟨_, rfl⟩
        rw [← hW8] at hsp ⊢
        clear hW8 wr
        have c1 : W8.cell? ⟨W0.heap.size, 1, none⟩ = some (.slice A5 pp.length q5) := (blk_cell (hsp.other HBK7.out (by decide)) 1).trans rfl
        by_cases hlt : k < pp.length
        · have d1 : decide ((k : Int) < (pp.length : Int)) = true := decide_eq_true (by omega)
          have g0 : decide ((0 : Int) ≤ (k : Int)) = true := decide_eq_true (by omega)
          obtain ⟨g5, cs, hA5, hblk, hcs, hok, o1, o2⟩ := own_blk2 R7.out (by omega)
          clear o1 o2
          obtain ⟨cs', hblk', hcs'⟩ := hsp.block hblk
          obtain ⟨ad5, had5⟩ : ∃ ad : Addr, ad = ⟨g5, 0, none⟩ := ⟨_, rfl⟩
          have hsz : k50.sz = 2 := rfl
          rw [hsz] at hcs
          have hoff : (⟨(ad5.add (k * 2)).block, (ad5.add (k * 2)).off + 1, none⟩ : Addr) = ⟨g5, k * 2 + 1, none⟩ := by rw [had5]; exact addr_off g5 k 2 1
          obtain ⟨u, hu⟩ := cell_of_size hblk' (show k * 2 + 1 < cs'.size by omega)
          have hu2 : W8.cell? ⟨(ad5.add (k * 2)).block, (ad5.add (k * 2)).off + 1, none⟩ = some u := by rw [hoff]; exact hu
          have hfz : W8.frozen? ⟨(ad5.add (k * 2)).block, (ad5.add (k * 2)).off + 1, none⟩ = false := by rw [hoff]; exact blk_frozen hblk' _
          have hnx := hsp.store hblk' hok (k * 2 + 1) (.string ⟨#[115, 112, 111, 105, 108, 101, 100]⟩)
          rw [← hoff] at hnx
          rw [← had5] at hA5
          rw [hA5] at c1
          have HNX := Lib.hid hnx
          have HLT2 := Lib.hid hlt
          have wj : wrap64 ((k : Int) + 1) = ((k + 1 : Nat) : Int) := wrap_nat k (by omega)
          have wk : IntKind.i64.wrap ((k : Int) + 1) = ((k + 1 : Nat) : Int) := by rw [i64_w]; exact wj
          clear hnx hlt hblk hblk' hcs hcs' hok hoff had5 hA5 hsz hsp hu
          go_wp2_with fail
          go_roundw
          case rel =>
            have h7 := HLT2.out
            exact ⟨k + 1, by first | rfl | rw [wj] | rw [wk], Nat.succ_le_of_lt h7, HNX.out⟩
          case measure =>
            have h7 := HLT2.out
            simp only [intOf]
            first | exact meas1 h7 | exact meas2 h7
        · obtain rfl : k = pp.length := by omega
          have d1 : decide ((pp.length : Int) < (pp.length : Int)) = false := decide_eq_false (by omega)
          have hz0 := HMR.out.size
          have hend1 : Buf K0 b (g.take (i + 1)) (lastA 0 1 (i + 1)) W8 := by
            rw [HTK.out, lastA_succ, ← HSQ.out.1]
            exact (hsp.buf B7.out (fun k hk => .inr hk)).less (fun k hk => .inl hk)
          have hend2 : Moves (fun k => ¬ K0 k) w3 W8 := ((HMR.out.trans' (Moves.of_below HB6.out)).trans' (M7.out.less (fun k q z => q (.inl z)))).trans' (hsp.moves (fun k hk z => by have := KL.out k z; omega))
          have HE1 := Lib.hid hend1
          have HE2 := Lib.hid hend2
          have wj : wrap64 ((i : Int) + 1) = ((i + 1 : Nat) : Int) := wrap_nat i (by omega)
          have wk : IntKind.i64.wrap ((i : Int) + 1) = ((i + 1 : Nat) : Int) := by rw [i64_w]; exact wj
          clear hend1 hend2 hsp
          go_wp2_with fail
          go_roundw
          case rel =>
            have h7 := HLT.out
            exact ⟨i + 1, by first | rfl | rw [wj] | rw [wk], Nat.succ_le_of_lt h7, HE1.out, HE2.out⟩
          case measure =>
            have h7 := HLT.out
            simp only [intOf]
            first | exact meas1 h7 | exact meas2 h7
    · obtain rfl : i = g.length := by omega
      have d1 : decide ((g.length : Int) < (g.length : Int)) = false := decide_eq_false (by omega)
      rw [List.take_length] at hBr
      have BR := Lib.hid hBr
      have MR := Lib.hid hmr
      clear hBr hmr B3 G3
      go_upto_region 20 with (go_at_call 20; refine (bentries_any BR.out).mono ?_; rintro e w5 ⟨tv, rfl, htv, hb5⟩; obtain ⟨At, ct, rfl⟩ := Kd.R_slice htv)
      clear d1
      have BT := Lib.hid (BR.out.also hb5)
      have T5 := Lib.hid htv
      have HBT := Lib.hid hb5
      clear htv hb5
      go_loopw [10] (fun v10 wr => ∃ j : Nat, v10 = .int .i64 (j : Int) ∧ j ≤ g.length ∧ Spoils (fun k => W0.heap.size ≤ k ∧ k < w5.heap.size) 50 w5 wr) (fun v10 _ => g.length - (intOf v10).toNat)
      case atStart => exact ⟨0, rfl, by omega, Spoils.refl _ _ _⟩
      case round =>
        obtain ⟨j, rfl, hj, hsp⟩ := hrel
        obtain ⟨W8, hW8⟩ : ∃ W, W = wr := ⟨_, rfl⟩
        rw [← hW8] at hsp ⊢
        clear hW8 wr
        by_cases hlt : j < g.length
        · have d1 : decide ((j : Int) < (g.length : Int)) = true := decide_eq_true (by omega)
          have g0 : decide ((0 : Int) ≤ (j : Int)) = true := decide_eq_true (by omega)
          obtain ⟨at_, A1, q1, hat, k00, k1, k02, k3⟩ := ent_at T5.out j hlt
          obtain ⟨gt, cst, hAt, hblt, hcst, o1, o2, o3⟩ := own_blk2 T5.out (by omega)
          clear k00 k02 o1 o2 o3
          rw [hat] at hAt
          have hate : at_ = ⟨gt, 0, none⟩ := Option.some.inj hAt
          have hlen : g[j].f0.f1.length ≤ 10 := (HM.out.fit _ (List.getElem_mem hlt)).short.1
          obtain ⟨pp, hpp⟩ : ∃ pp, pp = g[j].f0.f1 := ⟨_, rfl⟩
          rw [← hpp] at k1 k3 hlen
          have hoffT : (⟨(at_.add (j * 3)).block, (at_.add (j * 3)).off + 1, none⟩ : Addr) = ⟨gt, j * 3 + 1, none⟩ := by rw [hate]; exact addr_off gt j 3 1
          have KT := Lib.hid (fun (W : World) (h : Spoils (fun k => W0.heap.size ≤ k ∧ k < w5.heap.size) 50 w5 W) => (show W.cell? ⟨(at_.add (j * 3)).block, (at_.add (j * 3)).off + 1, none⟩ = some (.slice A1 pp.length q1) by
            rw [hoffT, blk_cell (h.other hblt (by decide)) (j * 3 + 1), ← blk_cell hblt (j * 3 + 1), ← hoffT]
            exact k1))
          have K3 := Lib.hid k3
          have HSP := Lib.hid hsp
          have HLT := Lib.hid hlt
          subst hat
          clear k1 k3 hAt hate hblt hcst hoffT hpp hsp hlt
          go_upto_region 23 with fail
          go_loopw [11] (fun v11 wr => ∃ k : Nat, v11 = .int .i64 (k : Int) ∧ k ≤ pp.length ∧ Spoils (fun k => W0.heap.size ≤ k ∧ k < w5.heap.size) 50 w5 wr) (fun v11 _ => pp.length - (intOf v11).toNat)
          case atStart => exact ⟨0, rfl, by omega, HSP.out⟩
          case round =>
            obtain ⟨k, rfl, hk, hsp⟩ := hrel
            obtain ⟨W9, hW9⟩ : ∃ W, W = wr := ⟨_, rfl⟩
            rw [← hW9] at hsp ⊢
            clear hW9 wr
            have c1 := KT.out W9 hsp
            by_cases hlt : k < pp.length
            · have d1 : decide ((k : Int) < (pp.length : Int)) = true := decide_eq_true (by omega)
              have g0 : decide ((0 : Int) ≤ (k : Int)) = true := decide_eq_true (by omega)
              obtain ⟨g5, cs, hA5, hblk, hcs, o1, hok, hok2⟩ := own_blk2 K3.out (by omega)
              clear o1
              obtain ⟨cs', hblk', hcs'⟩ := hsp.block hblk
              obtain ⟨ad5, had5⟩ : ∃ ad : Addr, ad = ⟨g5, 0, none⟩ := ⟨_, rfl⟩
              have hsz : k50.sz = 2 := rfl
              rw [hsz] at hcs
              have hoff : (ad5.add (k * 2)) = ⟨g5, k * 2, none⟩ := by rw [had5, Addr.add_lit]; simp
              obtain ⟨u, hu⟩ := cell_of_size hblk' (show k * 2 < cs'.size by omega)
              have hu2 : W9.cell? (ad5.add (k * 2)) = some u := by rw [hoff]; exact hu
              have hfz : W9.frozen? (ad5.add (k * 2)) = false := by rw [hoff]; exact blk_frozen hblk' _
              have hnx := hsp.store hblk' (show W0.heap.size ≤ g5 ∧ g5 < w5.heap.size from ⟨hok, hok2⟩) (k * 2) (.string ⟨#[115, 112, 111, 105, 108, 101, 100]⟩)
              rw [← hoff] at hnx
              rw [← had5] at hA5
              rw [hA5] at c1
              have HNX := Lib.hid hnx
              have HLT2 := Lib.hid hlt
              have wj : wrap64 ((k : Int) + 1) = ((k + 1 : Nat) : Int) := wrap_nat k (by omega)
              have wk : IntKind.i64.wrap ((k : Int) + 1) = ((k + 1 : Nat) : Int) := by rw [i64_w]; exact wj
              clear hnx hlt hblk hblk' hcs hcs' hok hok2 hoff had5 hA5 hsz hsp hu
              go_wp2_with fail
              go_roundw
              case rel =>
                have h7 := HLT2.out
                exact ⟨k + 1, by first | rfl | rw [wj] | rw [wk], Nat.succ_le_of_lt h7, HNX.out⟩
              case measure =>
                have h7 := HLT2.out
                simp only [intOf]
                first | exact meas1 h7 | exact meas2 h7
            · obtain rfl : k = pp.length := by omega
              have d1 : decide ((pp.length : Int) < (pp.length : Int)) = false := decide_eq_false (by omega)
              have HS := Lib.hid hsp
              have wj : wrap64 ((j : Int) + 1) = ((j + 1 : Nat) : Int) := wrap_nat j (by omega)
              have wk : IntKind.i64.wrap ((j : Int) + 1) = ((j + 1 : Nat) : Int) := by rw [i64_w]; exact wj
              clear hsp
              go_wp2_with fail
              go_roundw
              case rel =>
                have h7 := HLT.out
                exact ⟨j + 1, by first | rfl | rw [wj] | rw [wk], Nat.succ_le_of_lt h7, HS.out⟩
              case measure =>
                have h7 := HLT.out
                simp only [intOf]
                first | exact meas1 h7 | exact meas2 h7
        · obtain rfl : j = g.length := by omega
          have d1 : decide ((g.length : Int) < (g.length : Int)) = false := decide_eq_false (by omega)
          have hb8 : Below W0.heap.size W0 W8 := HBT.out.trans (hsp.below HBT.out.size (fun k hk => hk.1))
          have B8 := Lib.hid (BR.out.below hb8)
          have M8 := Lib.hid (MR.out.trans' (Moves.of_below hb8))
          clear hsp hb8 BT T5 HBT BR MR
          go_upto_region 28 with (go_at_call 10; refine (bkeys_any B8.out).mono ?_; rintro e w9 ⟨kv, X, rfl, hkv, hX, hb9⟩; obtain ⟨Ax, cx, rfl⟩ := Kd.R_slice hkv)
          clear d1
          have hxl : X.length ≤ 2500 := by
            have h := keys9_len HM.out.fit g.length (Nat.le_refl _)
            rw [List.take_length] at h
            rw [keys_eq hX]
            omega
          have B9 := Lib.hid (B8.out.below hb9)
          have M9 := Lib.hid (M8.out.trans' (Moves.of_below hb9))
          have X9 := Lib.hid hkv
          have HX := Lib.hid hX
          clear hkv hX hb9 B8 M8
          go_loopw [13] (fun v13 wr => ∃ j : Nat, v13 = .int .i64 (j : Int) ∧ j ≤ X.length ∧ Below w9.heap.size w9 wr) (fun v13 _ => X.length - (intOf v13).toNat)
          case atStart => exact ⟨0, rfl, by omega, Below.refl _ _⟩
          case round =>
            obtain ⟨j, rfl, hj, hbr⟩ := hrel
            obtain ⟨V4, hV4⟩ : ∃ W, W = wr := ⟨_, rfl⟩
            rw [← hV4] at hbr ⊢
            clear hV4 wr
            by_cases hlt : j < X.length
            · have d1 : decide ((j : Int) < (X.length : Int)) = true := decide_eq_true (by omega)
              have g0 : decide ((0 : Int) ≤ (j : Int)) = true := decide_eq_true (by omega)
              obtain ⟨ax, hax, k0⟩ := Kd.at_string (Kd.R_reads' (Kd.R_below X9.out hbr)).2.2 (j : Int) (by omega) (by omega)
              subst hax
              rw [rdS_nat X j hlt, Int.toNat_natCast] at k0
              have hxm : X[j] ∈ X := List.getElem_mem hlt
              have hne := (HX.out.2 _).1 hxm
              have hxs := key_small HM.out.fit hne
              have hmp := posts_may HM.out.fit (by omega) X[j]
              have hpost := bpostings_any (B9.out.below hbr) X[j] hxs (fun p hp => (hmp.each p hp).2.2.2.2.2)
              obtain ⟨x, hx⟩ : ∃ x, x = X[j] := ⟨_, rfl⟩
              rw [← hx] at k0 hne hmp hpost
              obtain ⟨P, hP⟩ : ∃ P, P = posts g x := ⟨_, rfl⟩
              rw [← hP] at hne hmp hpost
              have HPOST := Lib.hid hpost
              have HMP := Lib.hid hmp
              have HLT := Lib.hid hlt
              have HBR := Lib.hid hbr
              clear hpost hmp hlt hbr hxs hne hxm hx hP
              go_upto_region 32 with (go_at_call 11; refine HPOST.out.mono ?_; rintro e w10 ⟨pv, rfl, hpv, hb10⟩; obtain ⟨Ap, cp, rfl⟩ := Kd.R_slice hpv)
              have P10 := Lib.hid hpv
              have HB10 := Lib.hid hb10
              have hplen := HMP.out.len
              clear hpv hb10 HPOST k0
              go_loopw [15] (fun v15 wr => ∃ k : Nat, v15 = .int .i64 (k : Int) ∧ k ≤ P.length ∧ Spoils (fun k => V4.heap.size ≤ k ∧ k < w10.heap.size) 3 w10 wr) (fun v15 _ => P.length - (intOf v15).toNat)
              case atStart => exact ⟨0, rfl, by omega, Spoils.refl _ _ _⟩
              case round =>
                obtain ⟨k, rfl, hk, hsp⟩ := hrel
                obtain ⟨V9, hV9⟩ : ∃ W, W = wr := ⟨_, rfl⟩
                rw [← hV9] at hsp ⊢
                clear hV9 wr
                by_cases hlt : k < P.length
                · have d1 : decide ((k : Int) < (P.length : Int)) = true := decide_eq_true (by omega)
                  have g0 : decide ((0 : Int) ≤ (k : Int)) = true := decide_eq_true (by omega)
                  obtain ⟨ap, A1, q1, hap, k00, k1, k2⟩ := post_at P10.out k hlt
                  obtain ⟨gp, csp, hAp, hblp, hcsp, o1, o2, o3⟩ := own_blk2 P10.out (by omega)
                  clear k00 o1 o2 o3
                  rw [hap] at hAp
                  have hape : ap = ⟨gp, 0, none⟩ := Option.some.inj hAp
                  have hpos : 0 < P[k].f1.length := List.length_pos_iff.2 (HMP.out.each _ (List.getElem_mem hlt)).2.2.1
                  obtain ⟨pp, hpp⟩ : ∃ pp, pp = P[k].f1 := ⟨_, rfl⟩
                  rw [← hpp] at k1 k2 hpos
                  have hoffP : (⟨(ap.add (k * 2)).block, (ap.add (k * 2)).off + 1, none⟩ : Addr) = ⟨gp, k * 2 + 1, none⟩ := by rw [hape]; exact addr_off gp k 2 1
                  have c1 : V9.cell? ⟨(ap.add (k * 2)).block, (ap.add (k * 2)).off + 1, none⟩ = some (.slice A1 pp.length q1) := by
                    rw [hoffP, blk_cell (hsp.other hblp (by decide)) (k * 2 + 1), ← blk_cell hblp (k * 2 + 1), ← hoffP]
                    exact k1
                  obtain ⟨g5, cs, hA5, hblk, hcs, o1, hok, hok2⟩ := own_blk2 k2 hpos
                  clear o1
                  obtain ⟨cs', hblk', hcs'⟩ := hsp.block hblk
                  have hsz : (Kd.int IntKind.i64).sz = 1 := rfl
                  rw [hsz] at hcs
                  obtain ⟨u, hu⟩ := cell_of_size hblk' (show 0 < cs'.size by omega)
                  have hfz : V9.frozen? ⟨g5, 0, none⟩ = false := blk_frozen hblk' _
                  have hnx := hsp.store hblk' (show V4.heap.size ≤ g5 ∧ g5 < w10.heap.size from ⟨hok, hok2⟩) 0 (.int .i64 99)
                  rw [hA5] at c1
                  have g3 : decide ((0 : Int) < (pp.length : Int)) = true := decide_eq_true (by omega)
                  have HNX := Lib.hid hnx
                  have HLT2 := Lib.hid hlt
                  have wj : wrap64 ((k : Int) + 1) = ((k + 1 : Nat) : Int) := wrap_nat k (by omega)
                  have wk : IntKind.i64.wrap ((k : Int) + 1) = ((k + 1 : Nat) : Int) := by rw [i64_w]; exact wj
                  subst hap
                  clear hnx hAp hape hblp hcsp hoffP hblk hblk' hcs hcs' hok hok2 hA5 hsz hsp k1 k2 hpp hlt
                  go_wp2_with fail
                  go_roundw
                  case rel =>
                    have h7 := HLT2.out
                    exact ⟨k + 1, by first | rfl | rw [wj] | rw [wk], Nat.succ_le_of_lt h7, HNX.out⟩
                  case measure =>
                    have h7 := HLT2.out
                    simp only [intOf]
                    first | exact meas1 h7 | exact meas2 h7
                · obtain rfl : k = P.length := by omega
                  have d1 : decide ((P.length : Int) < (P.length : Int)) = false := decide_eq_false (by omega)
                  have HS := Lib.hid (HBR.out.trans ((HB10.out.trans (hsp.below HB10.out.size (fun k hk => hk.1))).mono HBR.out.size))
                  have wj : wrap64 ((j : Int) + 1) = ((j + 1 : Nat) : Int) := wrap_nat j (by have := HLT.out; omega)
                  have wk : IntKind.i64.wrap ((j : Int) + 1) = ((j + 1 : Nat) : Int) := by rw [i64_w]; exact wj
                  clear hsp
                  go_wp2_with fail
                  go_roundw
                  case rel =>
                    have h7 := HLT.out
                    exact ⟨j + 1, by first | rfl | rw [wj] | rw [wk], Nat.succ_le_of_lt h7, HS.out⟩
                  case measure =>
                    have h7 := HLT.out
                    simp only [intOf]
                    first | exact meas1 h7 | exact meas2 h7
            · obtain rfl : j = X.length := by omega
              have d1 : decide ((X.length : Int) < (X.length : Int)) = false := decide_eq_false (by omega)
              have hv := (M9.out.trans' (Moves.of_below hbr)).row V3.out
              have hlike := like_any (B9.out.below hbr) HM.out.fit (fun h => by
                have hs := (made_seq HM.out (by omega) (by omega) (g.length - 1) (by omega)).1
                rw [hs]
                unfold lastA
                rw [if_neg (by omega)]
                have : ((g.length - 1 : Nat) : Int) = (g.length : Int) - 1 := by omega
                rw [this]) Ak ck 9 ⟨#[]⟩ (by decide) (Kd.R_reads' hv).2.2 (Kd.R_reads' hv).2.1 (by omega)
              have HLIKE := Lib.hid hlike
              have HEND := Lib.hid (fun (v8 v9 : World) (h8 : Below V4.heap.size V4 v8) (h9 : Below v8.heap.size v8 v9) => HB3.out.trans ((((M9.out.trans' (Moves.of_below hbr)).trans' (Moves.of_below h8)).trans' (Moves.of_below h9)).toBelow (fun k hk => KW.out k hk) HB3.out.size))
              clear hv hlike hbr
              go_wp2_with (first
                | (go_at_call 21; refine HLIKE.out.mono ?_; rintro e v8 ⟨rfl, hb8⟩)
                | (go_at_call 15; refine (lives_any _).mono ?_; rintro e v9 ⟨rfl, hb9⟩))
              go_ret
              exact ⟨rfl, HEND.out _ _ hb8 hb9⟩
end Go.Proofs.YteidebllianiiaaGreatDoor
