/- Piles of ranks: up, down, put, replace. No condition but on size. -/
import Derived.Test.YtkjffoeelfodhaaCmp
import Derived.Test.YtkjffoeelfodhaaPAllx0
import Derived.WalkSpells
import Derived.WalkLawsBesides
import Derived.Deep.RegionLaw
import Derived.StillTailTactics
import Derived.BigRegion
namespace Go.Proofs.Ytkjffoeelfodhaa
open Go.RowKit Go.Shelf Go.Sort Go.Proofs.Ytkjffoeelfodhaa.Sc Go.Proofs.Ytkjffoeelfodhaa.PAll Go.Proofs.YtkjffoeelfodhaaW.PrintWords Go.Proofs.YtkjffoeelfodhaaW.PrintLast Go.Proofs.YtkjffoeelfodhaaW.PrintMore

def ofR (x : Rk) : S28 := ⟨x.1, x.2.1, x.2.2⟩
def toR (x : S28) : Rk := (x.f0, x.f1, x.f2)
theorem toR_of (x : Rk) : toR (ofR x) = x := rfl
theorem ofR_to (x : S28) : ofR (toR x) = x := rfl

/-- What keeps the best, at block g: so many, so many were added, and those that are kept. -/
structure IsTop (w : World) (base g : Nat) (v : Value) (k tot : Int) (K : List Rk) : Prop where
  cell : w.heap[g]? = some (.cells #[.int .i64 k, .int .i64 tot, v, .func (.func 25) #[] #[]] 55 (0, 0))
  ge : base ≤ g
  row : Kd.R k28 28 w base (fun _ => True) v (K.map ofR)
section
variable {w w1 : World} {base g : Nat} {v : Value} {k tot : Int} {K : List Rk}
theorem IsTop.lt (h : IsTop w base g v k tot K) : g < w.heap.size := (Array.getElem?_eq_some_iff.1 h.cell).1
theorem IsTop.below (h : IsTop w base g v k tot K) (hb : Below w.heap.size w w1) : IsTop w1 base g v k tot K := ⟨(hb.block g h.lt).trans h.cell, h.ge, Kd.R_below h.row hb⟩
theorem IsTop.c0 (h : IsTop w base g v k tot K) : w.cell? ⟨g, 0, none⟩ = some (.int .i64 k) := by simp [World.cell?, h.cell]
theorem IsTop.c1 (h : IsTop w base g v k tot K) : w.cell? ⟨g, 1, none⟩ = some (.int .i64 tot) := by simp [World.cell?, h.cell]
theorem IsTop.c2 (h : IsTop w base g v k tot K) : w.cell? ⟨g, 2, none⟩ = some v := by simp [World.cell?, h.cell]
theorem IsTop.c3 (h : IsTop w base g v k tot K) : w.cell? ⟨g, 3, none⟩ = some (.func (.func 25) #[] #[]) := by simp [World.cell?, h.cell]
theorem IsTop.drew (h : IsTop w base g v k tot K) : IsTop w.drew base g v k tot K := ⟨h.cell, h.ge, Kd.R_drew h.row⟩
theorem IsTop.form (h : IsTop w base g v k tot K) (hp : 0 < K.length) : ∃ gb cap, v = .slice (some ⟨gb, 0, none⟩) K.length cap ∧ base ≤ gb ∧ gb < w.heap.size ∧ gb ≠ g := by
  obtain ⟨gb, cap, e, hb, hl, cells, hc⟩ := Kd.R_form h.row (by simpa using hp)
  rw [List.length_map] at e
  exact ⟨gb, cap, e, hb, hl, fun he => by rw [he, h.cell] at hc; cases hc⟩
end
/-- An element's cells. -/
theorem IsTop.at {w : World} {base g gb n cap : Nat} {k tot : Int} {K : List Rk} (h : IsTop w base g (.slice (some ⟨gb, 0, none⟩) n cap) k tot K) (i : Nat) (hi : i < K.length) :
    w.cell? ⟨gb, i * 3, none⟩ = some (.int .i64 (at' K i).1) ∧ w.cell? ⟨gb, i * 3 + 1, none⟩ = some (.int .i64 (at' K i).2.1) ∧ w.cell? ⟨gb, i * 3 + 2, none⟩ = some (.int .i64 (at' K i).2.2) := by
  obtain ⟨hn, _, hC⟩ := Kd.R_reads' h.row
  obtain ⟨ad, e, c0, c1, c2⟩ := at_T28 hC (i : Int) (by omega) (by rw [List.length_map]; omega)
  cases e
  have hrd : rd_T28 (K.map ofR) (i : Int) = ofR (at' K i) := by
    unfold rd_T28 at'
    rw [Int.toNat_natCast, List.getD_eq_getElem?_getD, List.getD_eq_getElem?_getD, List.getElem?_map, List.getElem?_eq_getElem hi]; rfl
  rw [hrd] at c0 c1 c2
  rw [Int.toNat_natCast] at c0 c1 c2
  rw [show (⟨gb, 0, none⟩ : Addr).add (i * 3) = ⟨gb, i * 3, none⟩ by unfold Addr.add; split <;> simp_all] at c0 c1 c2
  refine ⟨c0, c1, c2⟩

/-- What is read of a pile, and of two of its things. -/
def Eight (g gb n cap j p : Nat) (x y : Rk) (w : World) : Prop :=
  (w.cell? ⟨g, 3, none⟩ = some (.func (.func 25) #[] #[]) ∧ w.cell? ⟨g, 2, none⟩ = some (.slice (some ⟨gb, 0, none⟩) n cap)) ∧
  (w.cell? ⟨gb, j * 3, none⟩ = some (.int .i64 x.1) ∧ w.cell? ⟨gb, j * 3 + 1, none⟩ = some (.int .i64 x.2.1) ∧ w.cell? ⟨gb, j * 3 + 2, none⟩ = some (.int .i64 x.2.2)) ∧
  (w.cell? ⟨gb, p * 3, none⟩ = some (.int .i64 y.1) ∧ w.cell? ⟨gb, p * 3 + 1, none⟩ = some (.int .i64 y.2.1) ∧ w.cell? ⟨gb, p * 3 + 2, none⟩ = some (.int .i64 y.2.2))
theorem cell_below {w w' : World} {b o : Nat} {v : Value} (h : w.cell? ⟨b, o, none⟩ = some v) (hb : Below w.heap.size w w') : w'.cell? ⟨b, o, none⟩ = some v := (hb.cell (p := ⟨b, o, none⟩) (World.block_lt_of_cell? _ _ h)).trans h
theorem Eight.below {g gb n cap j p : Nat} {x y : Rk} {w w' : World} (h : Eight g gb n cap j p x y w) (hb : Below w.heap.size w w') : Eight g gb n cap j p x y w' :=
  ⟨⟨cell_below h.1.1 hb, cell_below h.1.2 hb⟩, ⟨cell_below h.2.1.1 hb, cell_below h.2.1.2.1 hb, cell_below h.2.1.2.2 hb⟩, ⟨cell_below h.2.2.1 hb, cell_below h.2.2.2.1 hb, cell_below h.2.2.2.2 hb⟩⟩
theorem IsTop.eight {w : World} {base g gb n cap : Nat} {k tot : Int} {K : List Rk} (h : IsTop w base g (.slice (some ⟨gb, 0, none⟩) n cap) k tot K) (i j : Nat) (hi : i < K.length) (hj : j < K.length) : Eight g gb n cap i j (at' K i) (at' K j) w :=
  ⟨⟨h.c3, h.c2⟩, h.at i hi, h.at j hj⟩

theorem below_two {w a b : World} (h : Below w.heap.size w a) (k : Below a.heap.size a b) : Below w.heap.size w b := h.trans (k.mono h.size)
theorem IsTop.drewN {w : World} {base g : Nat} {v : Value} {k tot : Int} {K : List Rk} (h : IsTop w base g v k tot K) (q : Nat) : IsTop (w.drewN q) base g v k tot K := h.below (pw_below_drewN (Below.refl _ _) q)
theorem IsTop.thaw {w : World} {base g gb n cap : Nat} {k tot : Int} {K : List Rk} (h : IsTop w base g (.slice (some ⟨gb, 0, none⟩) n cap) k tot K) (hp : 0 < K.length) (o : Nat) : w.frozen? ⟨gb, o, none⟩ = false := by
  obtain ⟨gb', cap', e, _, _, cells, hc⟩ := Kd.R_form h.row (by simpa using hp)
  cases e
  simp [World.frozen?, hc]
/-- Behind a store of one thing. -/
theorem IsTop.store {w : World} {base g gb n cap : Nat} {k tot : Int} {K : List Rk} (h : IsTop w base g (.slice (some ⟨gb, 0, none⟩) n cap) k tot K) (hg : gb ≠ g) (i : Nat) (hi : i < K.length) (x0 x1 x2 : Int) :
    IsTop (((w.setCell ⟨gb, i * 3, none⟩ (.int .i64 x0)).setCell ⟨gb, i * 3 + 1, none⟩ (.int .i64 x1)).setCell ⟨gb, i * 3 + 2, none⟩ (.int .i64 x2)) base g (.slice (some ⟨gb, 0, none⟩) n cap) k tot (K.set i (x0, x1, x2)) ∧
    w.grownBy (((w.setCell ⟨gb, i * 3, none⟩ (.int .i64 x0)).setCell ⟨gb, i * 3 + 1, none⟩ (.int .i64 x1)).setCell ⟨gb, i * 3 + 2, none⟩ (.int .i64 x2)) (some gb) := by
  obtain ⟨c0, c1, c2⟩ := h.at i hi
  obtain ⟨hn, _, _⟩ := Kd.R_reads' h.row
  rw [List.length_map] at hn
  have hs := Kd.R_seg h.row (i : Int) (by omega) (by omega) (c := [.int .i64 (at' K i).1, .int .i64 (at' K i).2.1, .int .i64 (at' K i).2.2]) (seg := [.int .i64 x0, .int .i64 x1, .int .i64 x2]) (j := 0) (x' := ofR (x0, x1, x2)) (okp := fun _ => False) rfl (by
    intro j u hu
    rw [Int.toNat_natCast]
    match j with
    | 0 => simp at hu; subst hu; exact c0
    | 1 => simp at hu; subst hu; exact c1
    | 2 => simp at hu; subst hu; exact c2
    | j + 3 => simp at hu) (show 0 + 3 ≤ 3 by decide) (k28_mkM w base _ (ofR (x0, x1, x2))) (fun _ hk => hk.elim)
  rw [Int.toNat_natCast] at hs
  obtain ⟨h1, h2⟩ := hs
  rw [← List.map_set] at h1
  exact ⟨⟨(h2.block g h.lt (fun e => hg (by injection e with e; exact e.symm))).trans h.cell, h.ge, h1⟩, h2⟩
theorem grown_refl (w : World) (row : Option Nat) : w.grownBy w row := ⟨rfl, rfl, rfl, Nat.le_refl _, fun _ _ _ => rfl⟩
theorem grown_drew {w w' : World} {row : Option Nat} (h : w.grownBy w' row) : w.grownBy w'.drew row := ⟨h.os, h.tape, h.output, h.size, h.block⟩
theorem up_zero (m : Nat) (L : List Rk) : Sc.up m L 0 = L := by cases m <;> simp [Sc.up]
theorem up_stop (m : Nat) (L : List Rk) (j : Nat) (h : wrs (at' L j) (at' L (par j)) = false) : Sc.up (m + 1) L j = L := by unfold Sc.up; rw [h, Bool.and_false, if_neg (by simp)]
theorem up_go (m : Nat) (L : List Rk) (j : Nat) (h0 : 0 < j) (h : wrs (at' L j) (at' L (par j)) = true) : Sc.up (m + 1) L j = Sc.up m (Sc.swp L j (par j)) (par j) := by rw [Sc.up, h, decide_eq_true h0]; rfl

set_option maxHeartbeats 2000000 in
set_option maxRecDepth 100000 in
theorem up_any (base g : Nat) (v : Value) (k tot : Int) (K : List Rk) (i : Nat) (w : World) (hT : IsTop w base g v k tot K) (hi : i < K.length) (hl : K.length ≤ 100000) :
    Calls Try.prog 31 #[.pointer (some ⟨g, 2, none⟩), .int .i64 i] w fun e w' => e = .returned (.tuple #[]) ∧ IsTop w' base g v k tot (Sc.up (K.length + 1) K i) ∧ w.grownBy w' v.ownBlock := by
  obtain ⟨gb, cap, rfl, hge, hgl, hne⟩ := hT.form (by omega)
  obtain ⟨n, hn⟩ : ∃ n, K.length = n := ⟨_, rfl⟩
  rw [hn] at hT hi hl ⊢
  have HN := Lib.hid hn
  clear hn
  go_enter Try.func31, Try.ntmps31
  go_wp2_with fail
  go_loopw [1] (fun vk wr => ∃ (j m : Nat) (L : List Rk), vk = .int .i64 j ∧ j < n ∧ L.length = n ∧ j < m ∧ IsTop wr base g (.slice (some ⟨gb, 0, none⟩) n cap) k tot L ∧ Sc.up m L j = Sc.up (n + 1) K i ∧ w.grownBy wr (some gb)) (fun vk _ => (intOf vk).toNat)
  case atStart => exact ⟨i, n + 1, K, rfl, hi, HN.out, by omega, hT, rfl, grown_refl w _⟩
  case round =>
    clear hT
    obtain ⟨j, m, L, rfl, hj, hL, hm, hT, hup, hgr⟩ := hrel
    have HGR := Lib.hid hgr
    clear hgr
    have HUP := Lib.hid hup
    have HLn := Lib.hid hL
    clear hup hL
    rcases Nat.eq_zero_or_pos j with rfl | hj0
    · have hg : decide ((0 : Int) < ((0 : Nat) : Int)) = false := by decide
      go_wp2_with fail
      go_quiet (fail)
      go_wp2_with fail
      go_end0
      have hu := HUP.out
      rw [up_zero] at hu
      rw [← hu]
      exact ⟨rfl, hT.drewN _, HGR.out.trans (grown_of_below (pw_below_drewN (Below.refl _ _) _) _)⟩
    · have h8 := hT.eight j (par j) (by rw [HLn.out]; exact hj) (by rw [HLn.out]; unfold par; omega)
      obtain ⟨p, hp⟩ : ∃ p, par j = p := ⟨_, rfl⟩
      rw [hp] at h8
      have hA := fun W => ahead_any (at' L j) (at' L p) W
      generalize hx : at' L j = x at *
      generalize hy : at' L p = y at *
      have q1 : IntKind.i64.wrap ((j : Int) - 1) = (j : Int) - 1 := by rw [IntKind.wrap_i64]; omega
      have q2 : IntKind.i64.wrap (Int.tdiv ((j : Int) - 1) 2) = (p : Int) := by rw [IntKind.wrap_i64, Int.tdiv_eq_ediv_of_nonneg (by omega)]; unfold par at hp; omega
      have p0 := eq_true (show (0 : Int) ≤ (p : Int) by omega)
      have p1 := eq_true (show (p : Int) < (n : Int) by unfold par at hp; omega)
      have p2 := eq_true (show (0 : Int) ≤ (j : Int) by omega)
      have p3 := eq_true (show (j : Int) < (n : Int) by omega)
      have p4 := eq_true (show (0 : Int) < (j : Int) by omega)
      have HP := Lib.hid (And.intro hp (And.intro hx hy))
      have HT := Lib.hid hT
      have HA := Lib.hid hA
      obtain ⟨⟨d1, d2⟩, ⟨d3, d4, d5⟩, ⟨d6, d7, d8⟩⟩ := h8
      clear hp hx hy hT hA
      obtain ⟨b, hb⟩ : ∃ b, wrs x y = b := ⟨_, rfl⟩
      rw [hb] at HA
      have HB := Lib.hid hb
      clear hb
      have hB0 := Lib.hid ((Below.refl wr.heap.size wr).drew)
      obtain ⟨x0, x1, x2⟩ := x
      obtain ⟨y0, y1, y2⟩ := y
      dsimp only at d3 d4 d5 d6 d7 d8
      go_wp2_with fail
      go_region_held3 (fun w' => ((w'.cell? ⟨g, 3, none⟩ = some (.func (.func 25) #[] #[]) ∧ w'.cell? ⟨g, 2, none⟩ = some (.slice (some ⟨gb, 0, none⟩) n cap)) ∧
          (w'.cell? ⟨gb, j * 3, none⟩ = some (.int .i64 x0) ∧ w'.cell? ⟨gb, j * 3 + 1, none⟩ = some (.int .i64 x1) ∧ w'.cell? ⟨gb, j * 3 + 2, none⟩ = some (.int .i64 x2)) ∧
          (w'.cell? ⟨gb, p * 3, none⟩ = some (.int .i64 y0) ∧ w'.cell? ⟨gb, p * 3 + 1, none⟩ = some (.int .i64 y1) ∧ w'.cell? ⟨gb, p * 3 + 2, none⟩ = some (.int .i64 y2))) ∧ Below wr.heap.size wr w')
        (first | assumption | exact ⟨⟨⟨d1, d2⟩, ⟨d3, d4, d5⟩, ⟨d6, d7, d8⟩⟩, hB0.out⟩ | go_keep)
        (first | (go_at_call 25; (with_reducible refine Calls.mono (HA.out _) ?_); rintro e w5 ⟨rfl, hb6⟩; have ht := Eight.below (x := (x0, x1, x2)) (y := (y0, y1, y2)) (And.left (by assumption)) hb6; unfold Eight at ht; have hbb := below_two (And.right (by assumption)) hb6))
      all_goals
        have hT5 := HT.out.below hbb
        have hp := HP.out
        have HBB := Lib.hid hbb
        obtain ⟨⟨d1, d2⟩, ⟨d3, d4, d5⟩, ⟨d6, d7, d8⟩⟩ := ht
        clear hbb hb6
        obtain ⟨m, rfl⟩ : ∃ m', m = m' + 1 := ⟨m - 1, by omega⟩
        cases b with
        | false =>
          go_wp2_with fail
          go_end0
          have hu := HUP.out
          rw [up_stop m L j (by rw [hp.1, hp.2.1, hp.2.2]; exact HB.out)] at hu
          rw [← hu]
          exact ⟨rfl, hT5, HGR.out.trans (grown_of_below HBB.out _)⟩
        | true =>
          have hf := hT5.thaw (by rw [HLn.out]; omega)
          have f0 := hf (j * 3)
          have f1 := hf (j * 3 + 1)
          have f2 := hf (j * 3 + 2)
          have f3 := hf (p * 3)
          have f4 := hf (p * 3 + 1)
          have f5 := hf (p * 3 + 2)
          have HT5 := Lib.hid hT5
          have HP2 := Lib.hid hp
          clear hf hT5 hp
          go_wp2_with fail
          have hpj : p < j := by have := HP.out.1; unfold par at this; omega
          have n0 : ¬ (j * 3 = p * 3) := by omega
          have m0 : ¬ (p * 3 = j * 3) := by omega
          have n1 : ¬ (j * 3 = p * 3 + 1) := by omega
          have m1 : ¬ (p * 3 + 1 = j * 3) := by omega
          have n2 : ¬ (j * 3 = p * 3 + 2) := by omega
          have m2 : ¬ (p * 3 + 2 = j * 3) := by omega
          have n3 : ¬ (j * 3 + 1 = p * 3) := by omega
          have m3 : ¬ (p * 3 = j * 3 + 1) := by omega
          have n4 : ¬ (j * 3 + 1 = p * 3 + 1) := by omega
          have m4 : ¬ (p * 3 + 1 = j * 3 + 1) := by omega
          have n5 : ¬ (j * 3 + 1 = p * 3 + 2) := by omega
          have m5 : ¬ (p * 3 + 2 = j * 3 + 1) := by omega
          have n6 : ¬ (j * 3 + 2 = p * 3) := by omega
          have m6 : ¬ (p * 3 = j * 3 + 2) := by omega
          have n7 : ¬ (j * 3 + 2 = p * 3 + 1) := by omega
          have m7 : ¬ (p * 3 + 1 = j * 3 + 2) := by omega
          have n8 : ¬ (j * 3 + 2 = p * 3 + 2) := by omega
          have m8 : ¬ (p * 3 + 2 = j * 3 + 2) := by omega
          clear hpj
          go_region
          all_goals
            have hle : p < j := by have := HP.out.1; unfold par at this; omega
            obtain ⟨s1, g1⟩ := HT5.out.store hne j (by rw [HLn.out]; exact hj) y0 y1 y2
            obtain ⟨s2, g2⟩ := s1.store hne p (by rw [List.length_set, HLn.out]; omega) x0 x1 x2
            have hsw : (L.set j (y0, y1, y2)).set p (x0, x1, x2) = Sc.swp L j (par j) := by
              unfold Sc.swp
              rw [HP2.out.1, HP2.out.2.1, HP2.out.2.2]
            rw [hsw] at s2
            have hu := HUP.out
            rw [up_go m L j hj0 (by rw [HP2.out.1, HP2.out.2.1, HP2.out.2.2]; exact HB.out), HP2.out.1] at hu
            rw [HP2.out.1] at s2
            have hg3 := HGR.out.trans ((grown_of_below HBB.out _).trans (g1.trans g2))
            have HS := Lib.hid (And.intro s2.drew (And.intro hu (grown_drew hg3)))
            clear s1 s2 g1 g2 hsw hu hg3
            go_wp2_with fail
            go_roundw
            case rel => exact ⟨p, m, _, rfl, by omega, by rw [Sc.swp_len]; exact HLn.out, by omega, HS.out.1, HS.out.2.1, HS.out.2.2⟩
            case measure => simp [intOf]; omega
end Go.Proofs.Ytkjffoeelfodhaa
