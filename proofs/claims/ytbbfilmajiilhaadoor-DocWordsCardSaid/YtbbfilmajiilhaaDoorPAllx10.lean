-- written by a program of this session (wip/px): the walk of printed functions
import Derived.Test.YtbbfilmajiilhaaDoorPAllx0
import Derived.Test.YtbbfilmajiilhaaDoorPAllx7
import Derived.Test.YtbbfilmajiilhaaDoorPAllx8
import Derived.Test.YtbbfilmajiilhaaDoorBnd0
import Derived.Test.YtbbfilmajiilhaaDoorMayC
namespace Go.Proofs.YtbbfilmajiilhaaDoor.PAll
open Go.RowKit Go.Proofs.YtbbfilmajiilhaaDoorW.PrintWords Go.Proofs.YtbbfilmajiilhaaDoorW.PrintLast Go.Proofs.YtbbfilmajiilhaaDoorW.PrintMore
attribute [local go_sem] max2_int min2_int max_two min_two max_three min_three max_four min_four   -- for this text's walks alone
set_option linter.unusedVariables false
set_option linter.unusedSimpArgs false

/-! ### concordancelaw08_DocWords: function 3 -/
mutual
def concordancelaw08_DocWords.j0 : Nat → Int → Int → Option (Bool)
  | 0, _, _ => none
  | k + 1, x0, x1 => if x1 < 0 then (concordancelaw08_DocWords.j1 k x0 (wrap64 (-(wrap64 (x1 + 1))))) else (concordancelaw08_DocWords.j1 k x0 x1)
def concordancelaw08_DocWords.j1 : Nat → Int → Int → Option (Bool)
  | 0, _, _ => none
  | k + 1, x0, x1 => (concordancelaw08_words.f k (Int.tmod x0 511)).bind fun t291 => ((concordancelaw08_words.f k (Int.tmod x1 511)).bind fun t292 => ((some (([(⟨(⟨#[116]⟩ : ByteArray), t291⟩ : S24), (⟨(⟨#[117]⟩ : ByteArray), t292⟩ : S24)] : List (S24)) : List (S24))).bind fun y293 => (if (Int.tmod x0 511) > 500 then (concordancelaw08_DocWords.j2 k (Int.tmod x0 511) (Int.tmod x1 511) 0 true 0 y293) else (if (Int.tmod x1 511) > 500 then (concordancelaw08_DocWords.j2 k (Int.tmod x0 511) (Int.tmod x1 511) 0 true 0 y293) else (concordancelaw08_DocWords.j2 k (Int.tmod x0 511) (Int.tmod x1 511) 0 (decide ((wrap64 ((Int.tmod x0 511) + (Int.tmod x1 511))) > 500)) 0 y293)))))
def concordancelaw08_DocWords.j2 : Nat → Int → Int → Int → Bool → Int → List (S24) → Option (Bool)
  | 0, _, _, _, _, _, _ => none
  | k + 1, x0, x1, x6, x40, x297000, x297001 => if x40 = true then ((doc_May.f x297000 x297001).bind fun t297 => (if t297 = 7 then (if 7 = 0 then ((doc_Weight.f x297000 x297001).bind fun t298 => (if t298 = (wrap64 (x0 + x1)) then ((concordancelaw08_lives.f k).bind fun t299 => (some t299)) else (some false))) else ((concordancelaw08_lives.f k).bind fun t300 => (some t300))) else (some false))) else ((doc_May.f x297000 x297001).bind fun t301 => (if t301 = x6 then (if x6 = 0 then ((doc_Weight.f x297000 x297001).bind fun t302 => (if t302 = (wrap64 (x0 + x1)) then ((concordancelaw08_lives.f k).bind fun t303 => (some t303)) else (some false))) else ((concordancelaw08_lives.f k).bind fun t304 => (some t304))) else (some false)))
end
def concordancelaw08_DocWords.f (k : Nat) (a0 : Int) (a1 : Int) : Option (Bool) := if a0 < 0 then (concordancelaw08_DocWords.j0 k (wrap64 (-(wrap64 (a0 + 1)))) a1) else (concordancelaw08_DocWords.j0 k a0 a1)
theorem concordancelaw08_DocWords.mono_l : ∀ k, (∀ y0 y1, LeO (concordancelaw08_DocWords.j0 k y0 y1) (concordancelaw08_DocWords.j0 (k + 1) y0 y1)) ∧ (∀ y0 y1, LeO (concordancelaw08_DocWords.j1 k y0 y1) (concordancelaw08_DocWords.j1 (k + 1) y0 y1)) ∧ (∀ y0 y1 y2 y3 y4 y5, LeO (concordancelaw08_DocWords.j2 k y0 y1 y2 y3 y4 y5) (concordancelaw08_DocWords.j2 (k + 1) y0 y1 y2 y3 y4 y5))
  | 0 => ⟨fun _ _ r h => by simp [concordancelaw08_DocWords.j0] at h, fun _ _ r h => by simp [concordancelaw08_DocWords.j1] at h, fun _ _ _ _ _ _ r h => by simp [concordancelaw08_DocWords.j2] at h⟩
  | k + 1 => by
    obtain ⟨ih0, ih1, ih2⟩ := concordancelaw08_DocWords.mono_l k
    refine ⟨?_, ?_, ?_⟩
    · intro y0 y1
      unfold concordancelaw08_DocWords.j0
      repeat' first
      | (with_reducible exact ih0 _ _)
      | (with_reducible exact ih1 _ _)
      | (with_reducible exact ih2 _ _ _ _ _ _)
      | (with_reducible exact concordancelaw08_lives.mono _)
      | (with_reducible exact concordancelaw08_words.mono _ _)
      | (with_reducible exact LeO.refl _)
      | (with_reducible exact LeO.none _)
      | (with_reducible refine LeO.ite ?_ ?_)
      | (with_reducible refine LeO.bind ?_ (fun _ => ?_))
      | exact ih0 _ _
      | exact ih1 _ _
      | exact ih2 _ _ _ _ _ _
      | exact concordancelaw08_lives.mono _
      | exact concordancelaw08_words.mono _ _
      | exact LeO.none _
      | refine LeO.ite ?_ ?_
      | refine LeO.bind ?_ (fun _ => ?_)
    · intro y0 y1
      unfold concordancelaw08_DocWords.j1
      repeat' first
      | (with_reducible exact ih0 _ _)
      | (with_reducible exact ih1 _ _)
      | (with_reducible exact ih2 _ _ _ _ _ _)
      | (with_reducible exact concordancelaw08_lives.mono _)
      | (with_reducible exact concordancelaw08_words.mono _ _)
      | (with_reducible exact LeO.refl _)
      | (with_reducible exact LeO.none _)
      | (with_reducible refine LeO.ite ?_ ?_)
      | (with_reducible refine LeO.bind ?_ (fun _ => ?_))
      | exact ih0 _ _
      | exact ih1 _ _
      | exact ih2 _ _ _ _ _ _
      | exact concordancelaw08_lives.mono _
      | exact concordancelaw08_words.mono _ _
      | exact LeO.none _
      | refine LeO.ite ?_ ?_
      | refine LeO.bind ?_ (fun _ => ?_)
    · intro y0 y1 y2 y3 y4 y5
      unfold concordancelaw08_DocWords.j2
      repeat' first
      | (with_reducible exact ih0 _ _)
      | (with_reducible exact ih1 _ _)
      | (with_reducible exact ih2 _ _ _ _ _ _)
      | (with_reducible exact concordancelaw08_lives.mono _)
      | (with_reducible exact concordancelaw08_words.mono _ _)
      | (with_reducible exact LeO.refl _)
      | (with_reducible exact LeO.none _)
      | (with_reducible refine LeO.ite ?_ ?_)
      | (with_reducible refine LeO.bind ?_ (fun _ => ?_))
      | exact ih0 _ _
      | exact ih1 _ _
      | exact ih2 _ _ _ _ _ _
      | exact concordancelaw08_lives.mono _
      | exact concordancelaw08_words.mono _ _
      | exact LeO.none _
      | refine LeO.ite ?_ ?_
      | refine LeO.bind ?_ (fun _ => ?_)
theorem concordancelaw08_DocWords.mono : ∀ a0 a1 k, LeO (concordancelaw08_DocWords.f k a0 a1) (concordancelaw08_DocWords.f (k + 1) a0 a1) := by
  intro a0 a1 k
  obtain ⟨ih0, ih1, ih2⟩ := concordancelaw08_DocWords.mono_l k
  unfold concordancelaw08_DocWords.f
  repeat' first
      | (with_reducible exact ih0 _ _)
      | (with_reducible exact ih1 _ _)
      | (with_reducible exact ih2 _ _ _ _ _ _)
      | (with_reducible exact concordancelaw08_lives.mono _)
      | (with_reducible exact concordancelaw08_words.mono _ _)
      | (with_reducible exact LeO.refl _)
      | (with_reducible exact LeO.none _)
      | (with_reducible refine LeO.ite ?_ ?_)
      | (with_reducible refine LeO.bind ?_ (fun _ => ?_))
      | exact ih0 _ _
      | exact ih1 _ _
      | exact ih2 _ _ _ _ _ _
      | exact concordancelaw08_lives.mono _
      | exact concordancelaw08_words.mono _ _
      | exact LeO.none _
      | refine LeO.ite ?_ ?_
      | refine LeO.bind ?_ (fun _ => ?_)
set_option maxHeartbeats 8000000 in
set_option maxRecDepth 100000 in
theorem concordancelaw08_DocWords.calls (k : Nat) (a0 : Int) (a1 : Int) (r : Bool) (w : World) (h : concordancelaw08_DocWords.f k a0 a1 = some r) :
    Calls Tryd.prog 3 #[.int .i64 a0, .int .i64 a1] w fun e w' => e = .returned (.bool r) ∧ Below w.heap.size w w' := by
  have hu24 := Tryd.underlying24
  have hu27 := Tryd.underlying27
  have HB := Aside0.mk (Below.refl w.heap.size w)
  have H : (if a0 < 0 then (concordancelaw08_DocWords.j0 k (wrap64 (-(wrap64 (a0 + 1)))) a1) else (concordancelaw08_DocWords.j0 k a0 a1)) = some r := h
  clear h
  have HC3 := Aside0.mk H
  clear H
  go_enter Tryd.func3, Tryd.ntmps3
  go_upto_if 8 with (fail)
  go_cut [0] (fun v0 wc => ∃ (kq : Nat) (x0_2 : Int), v0 = .int .i64 x0_2 ∧ Aside0 (concordancelaw08_DocWords.j0 kq x0_2 a1 = some r) ∧ Aside0 (kq ≤ k) ∧ Aside0 (Below w.heap.size w wc))
  case first =>
    have H := HC3.out
    clear HC3
    by_cases c4 : a0 < 0
    · rw [if_pos c4] at H
      have c4b0 : decide (a0 < 0) = true := decide_eq_true c4
      clear c4
      (first | rw [c4b0] | (simp only [i64_w, i32_w]; rw [c4b0]) | skip)
      have H' := Aside0.mk H
      clear H
      go_wp2
      go_meet
      case rel => exact ⟨_, (wrap64 (-(wrap64 (a0 + 1)))), (by first | rfl | (simp; done) | (simp [*]; done)), H', ⟨by first | omega | exact Nat.le_refl _⟩, ⟨by repeat (first | (with_reducible first | exact HB.out | apply below_alloc | apply pw_below_drewN | apply below_drew1) | exact HB.out)⟩⟩
    · rw [if_neg c4] at H
      have c4b0 : decide (a0 < 0) = false := decide_eq_false c4
      clear c4
      (first | rw [c4b0] | (simp only [i64_w, i32_w]; rw [c4b0]) | skip)
      have H' := Aside0.mk H
      clear H
      go_wp2
      go_meet
      case rel => exact ⟨_, (a0), (by first | rfl | (simp; done) | (simp [*]; done)), H', ⟨by first | omega | exact Nat.le_refl _⟩, ⟨by repeat (first | (with_reducible first | exact HB.out | apply below_alloc | apply pw_below_drewN | apply below_drew1) | exact HB.out)⟩⟩
  case rest =>
    clear HC3
    try clear p2
    try clear c3
    try clear c4
    try clear c4b0
    obtain ⟨kq, x0_2, rfl, HA, HJ2, HB⟩ := hcut
    cases kq with
    | zero => exact absurd HA.out (by simp [concordancelaw08_DocWords.j0])
    | succ kj2 =>
      have H := HA.out
      clear HA
      simp only [concordancelaw08_DocWords.j0] at H
      have HC5 := Aside0.mk H
      clear H
      go_upto_if 13 with (fail)
      go_cut [1] (fun v1 wc => ∃ (kq : Nat) (x1_4 : Int), v1 = .int .i64 x1_4 ∧ Aside0 (concordancelaw08_DocWords.j1 kq x0_2 x1_4 = some r) ∧ Aside0 (kq ≤ kj2) ∧ Aside0 (Below w.heap.size w wc))
      case first =>
        have H := HC5.out
        clear HC5
        by_cases c6 : a1 < 0
        · rw [if_pos c6] at H
          have c6b0 : decide (a1 < 0) = true := decide_eq_true c6
          clear c6
          (first | rw [c6b0] | (simp only [i64_w, i32_w]; rw [c6b0]) | skip)
          have H' := Aside0.mk H
          clear H
          go_wp2
          go_meet
          case rel => exact ⟨_, (wrap64 (-(wrap64 (a1 + 1)))), (by first | rfl | (simp; done) | (simp [*]; done)), H', ⟨by have := HJ2.out; first | omega | exact Nat.le_refl _⟩, ⟨by repeat (first | (with_reducible first | exact HB.out | apply below_alloc | apply pw_below_drewN | apply below_drew1) | exact HB.out)⟩⟩
        · rw [if_neg c6] at H
          have c6b0 : decide (a1 < 0) = false := decide_eq_false c6
          clear c6
          (first | rw [c6b0] | (simp only [i64_w, i32_w]; rw [c6b0]) | skip)
          have H' := Aside0.mk H
          clear H
          go_wp2
          go_meet
          case rel => exact ⟨_, (a1), (by first | rfl | (simp; done) | (simp [*]; done)), H', ⟨by have := HJ2.out; first | omega | exact Nat.le_refl _⟩, ⟨by repeat (first | (with_reducible first | exact HB.out | apply below_alloc | apply pw_below_drewN | apply below_drew1) | exact HB.out)⟩⟩
      case rest =>
        clear HC5
        try clear p2
        try clear c3
        try clear c4
        try clear c4b0
        try clear c6
        try clear c6b0
        try clear p6
        try clear p2
        obtain ⟨kq, x1_4, rfl, HA, HJ4, HB⟩ := hcut
        cases kq with
        | zero => exact absurd HA.out (by simp [concordancelaw08_DocWords.j1])
        | succ kj4 =>
          have H := HA.out
          clear HA
          simp only [concordancelaw08_DocWords.j1] at H
          replace H := Option.bind_eq_some_iff.mp H
          obtain ⟨t291, A70, H⟩ := H
          replace H : ((concordancelaw08_words.f kj4 (Int.tmod x1_4 511)).bind fun t292 => ((some (([(⟨(⟨#[116]⟩ : ByteArray), t291⟩ : S24), (⟨(⟨#[117]⟩ : ByteArray), t292⟩ : S24)] : List (S24)) : List (S24))).bind fun y293 => (if (Int.tmod x0_2 511) > 500 then (concordancelaw08_DocWords.j2 kj4 (Int.tmod x0_2 511) (Int.tmod x1_4 511) 0 true 0 y293) else (if (Int.tmod x1_4 511) > 500 then (concordancelaw08_DocWords.j2 kj4 (Int.tmod x0_2 511) (Int.tmod x1_4 511) 0 true 0 y293) else (concordancelaw08_DocWords.j2 kj4 (Int.tmod x0_2 511) (Int.tmod x1_4 511) 0 (decide ((wrap64 ((Int.tmod x0_2 511) + (Int.tmod x1_4 511))) > 500)) 0 y293))))) = some r := H
          have A7 := Aside0.mk A70
          clear A70
          replace H := Option.bind_eq_some_iff.mp H
          obtain ⟨t292, A80, H⟩ := H
          replace H : ((some (([(⟨(⟨#[116]⟩ : ByteArray), t291⟩ : S24), (⟨(⟨#[117]⟩ : ByteArray), t292⟩ : S24)] : List (S24)) : List (S24))).bind fun y293 => (if (Int.tmod x0_2 511) > 500 then (concordancelaw08_DocWords.j2 kj4 (Int.tmod x0_2 511) (Int.tmod x1_4 511) 0 true 0 y293) else (if (Int.tmod x1_4 511) > 500 then (concordancelaw08_DocWords.j2 kj4 (Int.tmod x0_2 511) (Int.tmod x1_4 511) 0 true 0 y293) else (concordancelaw08_DocWords.j2 kj4 (Int.tmod x0_2 511) (Int.tmod x1_4 511) 0 (decide ((wrap64 ((Int.tmod x0_2 511) + (Int.tmod x1_4 511))) > 500)) 0 y293)))) = some r := H
          have A8 := Aside0.mk A80
          clear A80
          obtain ⟨y293, hy293⟩ : ∃ y_ : List (S24), y_ = (([(⟨(⟨#[116]⟩ : ByteArray), t291⟩ : S24), (⟨(⟨#[117]⟩ : ByteArray), t292⟩ : S24)] : List (S24))) := ⟨_, rfl⟩
          replace H : (if (Int.tmod x0_2 511) > 500 then (concordancelaw08_DocWords.j2 kj4 (Int.tmod x0_2 511) (Int.tmod x1_4 511) 0 true 0 y293) else (if (Int.tmod x1_4 511) > 500 then (concordancelaw08_DocWords.j2 kj4 (Int.tmod x0_2 511) (Int.tmod x1_4 511) 0 true 0 y293) else (concordancelaw08_DocWords.j2 kj4 (Int.tmod x0_2 511) (Int.tmod x1_4 511) 0 (decide ((wrap64 ((Int.tmod x0_2 511) + (Int.tmod x1_4 511))) > 500)) 0 y293))) = some r := by first | (rw [hy293]; with_reducible exact H) | (have H2_ := (Option.bind_some _ _).symm.trans H; rw [hy293]; with_reducible exact H2_) | (have H2_ := (Option.bind_some _ _).symm.trans H; with_reducible exact H2_) | with_reducible exact H | (rw [hy293]; exact H) | exact H
          have Ny293 := Aside0.mk hy293
          clear hy293
          have HC9 := Aside0.mk H
          clear H
          go_upto_region 9 with (first | ((with_reducible refine gate_callee (f := 5) rfl ?_); refine goesL_ (some 22) rfl rfl Tryd.func5 (by kernel_rfl) rfl #[.int .i64 (Int.tmod x0_2 511)] rfl (by (try simp only [List.map_toArray, List.map_cons, List.map_nil]); first | done | rfl | (simp only [List.length_drop, List.length_take]; rfl)) ?_; (with_reducible refine (concordancelaw08_words.calls kj4 (Int.tmod x0_2 511) t291 _ A7.out).mono ?_); rintro e w10 ⟨rfl, hb⟩; refine ⟨_, rfl, ?_⟩; have n0_ := Aside0.mk (below_step (by repeat (first | (with_reducible first | exact HB.out | apply below_alloc | apply pw_below_drewN | apply below_drew1) | exact HB.out)) hb); clear HB; have HB := n0_; clear n0_; (try clear hb); (try clear hb2); (try clear hk); (try clear hi)) | ((with_reducible refine gate_callee (f := 5) rfl ?_); refine goesL_ (some 25) rfl rfl Tryd.func5 (by kernel_rfl) rfl #[.int .i64 (Int.tmod x1_4 511)] rfl (by (try simp only [List.map_toArray, List.map_cons, List.map_nil]); first | done | rfl | (simp only [List.length_drop, List.length_take]; rfl)) ?_; (with_reducible refine (concordancelaw08_words.calls kj4 (Int.tmod x1_4 511) t292 _ A8.out).mono ?_); rintro e w11 ⟨rfl, hb⟩; refine ⟨_, rfl, ?_⟩; have n0_ := Aside0.mk (below_step (by repeat (first | (with_reducible first | exact HB.out | apply below_alloc | apply pw_below_drewN | apply below_drew1) | exact HB.out)) hb); clear HB; have HB := n0_; clear n0_; (try clear hb); (try clear hb2); (try clear hk); (try clear hi)) | ((with_reducible refine gate_dst (N := 27) rfl ?_); refine Kd.R_lit k24 _ 24 ?hg (N := 27) ?hd (xs := ([(⟨(⟨#[116]⟩ : ByteArray), t291⟩ : S24), (⟨(⟨#[117]⟩ : ByteArray), t292⟩ : S24)] : List (S24))) (inner := [.string (⟨#[116]⟩ : ByteArray), .string t291, .string (⟨#[117]⟩ : ByteArray), .string t292]) (ok := fun _ => True) (okp := fun _ => True) ?hr ?hp (fun _ hk => hk) trivial (Below.refl _ _) (Nat.le_refl _) (by simp) ?_; (case hd => rfl); (case hg => rfl); (case hr => first | (go_simp; done) | (go_simp; rfl)); (case hp => exact (Reps.c2 (show Kd.M k24 _ _ _ (⟨(⟨#[116]⟩ : ByteArray), t291⟩ : S24) [.string (⟨#[116]⟩ : ByteArray), .string t291] from (k24_mkM _ _ _ (⟨(⟨#[116]⟩ : ByteArray), t291⟩ : S24) )) (Reps.c2 (show Kd.M k24 _ _ _ (⟨(⟨#[117]⟩ : ByteArray), t292⟩ : S24) [.string (⟨#[117]⟩ : ByteArray), .string t292] from (k24_mkM _ _ _ (⟨(⟨#[117]⟩ : ByteArray), t292⟩ : S24) )) (Reps.none _ _)))); intro v294 w12 ho13 hb hg_ hnew_; clear hg_ hnew_; (first | rw [← Ny293.out] at ho13 | (simp only [Int.reduceToNat] at ho13; rw [← Ny293.out] at ho13)); have n0_ := Aside0.mk (Kd.R_lower ho13 (below_size (by repeat (first | (with_reducible first | exact HB.out | apply below_alloc | apply pw_below_drewN | apply below_drew1) | exact HB.out)))); have n1_ := Aside0.mk (below_step (by repeat (first | (with_reducible first | exact HB.out | apply below_alloc | apply pw_below_drewN | apply below_drew1) | exact HB.out)) hb); clear HB; have HO295 := n0_; have HB := n1_; clear n0_ n1_; clear hb ho13; obtain ⟨Ao14, co14, eo14⟩ := Kd.R_slice HO295.out; subst eo14) | ((with_reducible refine gate_dst (N := 5) rfl ?_); refine box_event ?hg (N := 5) ?hd (cs := #[.int .i64 0, .slice none 0 0]) (t := 27) ?hr ?_; (case hd => rfl); (case hg => rfl); (case hr => first | (go_simp; done) | (go_simp; rfl)); intro gb296 hg w15 hbox hb; have n0_ := Aside0.mk (Kd.R_below (by (with_reducible repeat (first | apply Kd.R_alloc | apply Kd.R_drewN | apply Kd.R_drew)); exact HO295.out) hb); have n1_ := Aside0.mk (below_step (by repeat (first | (with_reducible first | exact HB.out | apply below_alloc | apply pw_below_drewN | apply below_drew1) | exact HB.out)) hb); have n2_ := Aside0.mk (hbox); have n3_ := Aside0.mk ((by rw [hg]; exact (below_size (by repeat (first | (with_reducible first | exact HB.out | apply below_alloc | apply pw_below_drewN | apply below_drew1) | exact HB.out))) : w.heap.size ≤ gb296)); have n4_ := Aside0.mk ((by rw [hg]; exact (below_size (by repeat (first | (with_reducible first | exact HB.out | apply below_alloc | apply pw_below_drewN | apply below_drew1) | exact HB.out))) : w.heap.size ≤ gb296)); clear HO295; clear HB; have HO295 := n0_; have HB := n1_; have BK296 := n2_; have GW296 := n3_; have GE296 := n4_; clear n0_ n1_ n2_ n3_ n4_; clear hb hbox hg; have hcz16_0 : w15.cell? ⟨gb296, 0, none⟩ = some (.int .i64 0) := (blk_cell BK296.out 0).trans rfl; have hcz16_1 : w15.cell? ⟨gb296, 1, none⟩ = some (.slice none 0 0) := (blk_cell BK296.out 1).trans rfl; have hfz16_0 := blk_frozen BK296.out 0; have hfz16_1 := blk_frozen BK296.out 1))
          (try simp only [Act.put, List.setIfInBounds_toArray, List.set_cons_zero, List.set_cons_succ])
          go_cut [40] (fun v40 wc => ∃ (kq : Nat) (x40_8 : Bool), v40 = .bool x40_8 ∧ Aside0 (concordancelaw08_DocWords.j2 kq (Int.tmod x0_2 511) (Int.tmod x1_4 511) 0 x40_8 0 y293 = some r) ∧ Aside0 (kq ≤ kj4) ∧ Aside0 (Kd.R k24 24 wc w.heap.size (fun _ => True) (.slice Ao14 y293.length co14) y293) ∧ Aside0 (wc.heap[gb296]? = some (.cells #[.int .i64 0, (.slice Ao14 y293.length co14)] 27 (0, 0))) ∧ Aside0 (Below w.heap.size w wc))
          case first =>
            have H := HC9.out
            clear HC9
            by_cases c17 : (Int.tmod x0_2 511) > 500
            · rw [if_pos c17] at H
              have c17b0 : decide (500 < (Int.tmod x0_2 511)) = true := decide_eq_true c17
              clear c17
              (first | rw [c17b0] | (simp only [i64_w, i32_w]; rw [c17b0]) | skip)
              have H' := Aside0.mk H
              clear H
              go_wp2
              go_meet
              case rel => exact ⟨_, (true), (by first | rfl | (simp; done) | (simp [*]; done)), H', ⟨by have := HJ2.out; have := HJ4.out; first | omega | exact Nat.le_refl _⟩, ⟨by (with_reducible repeat (first | apply Kd.R_alloc | apply Kd.R_drewN | apply Kd.R_drew)); exact Kd.R_mono (Kd.R_far (p := ⟨gb296, 1, none⟩) (Kd.R_far (p := ⟨gb296, 0, none⟩) (Kd.R_types HO295.out BK296.out (by decide)) (fun _ hk => hk.2) (.int .i64 0)) (fun _ hk => hk.2) (.slice Ao14 y293.length co14)) (fun _ hk => trivial)⟩, ⟨by (with_reducible repeat (first | refine blk_drewN ?_ _ | refine blk_drew ?_ | refine blk_alloc ?_ _)); refine blk_put (cs := #[.int .i64 0, .slice none 0 0]) ?_ 1 _ rfl; (with_reducible repeat (first | refine blk_drewN ?_ _ | refine blk_drew ?_ | refine blk_alloc ?_ _)); refine blk_put (cs := #[.int .i64 0, .slice none 0 0]) ?_ 0 _ rfl; (with_reducible repeat (first | refine blk_drewN ?_ _ | refine blk_drew ?_ | refine blk_alloc ?_ _)); exact BK296.out⟩, ⟨by repeat (first | (with_reducible first | exact HB.out | apply below_alloc | apply pw_below_drewN | apply below_drew1 | refine below_set ?_ GE296.out) | exact HB.out)⟩⟩
            · rw [if_neg c17] at H
              have c17b0 : decide (500 < (Int.tmod x0_2 511)) = false := decide_eq_false c17
              clear c17
              (first | rw [c17b0] | (simp only [i64_w, i32_w]; rw [c17b0]) | skip)
              by_cases c18 : (Int.tmod x1_4 511) > 500
              · rw [if_pos c18] at H
                have c18b0 : decide (500 < (Int.tmod x1_4 511)) = true := decide_eq_true c18
                clear c18
                have H' := Aside0.mk H
                clear H
                go_wp2
                go_meet
                case rel => exact ⟨_, (true), (by first | rfl | (simp; done) | (simp [*]; done)), H', ⟨by have := HJ2.out; have := HJ4.out; first | omega | exact Nat.le_refl _⟩, ⟨by (with_reducible repeat (first | apply Kd.R_alloc | apply Kd.R_drewN | apply Kd.R_drew)); exact Kd.R_mono (Kd.R_far (p := ⟨gb296, 1, none⟩) (Kd.R_far (p := ⟨gb296, 0, none⟩) (Kd.R_types HO295.out BK296.out (by decide)) (fun _ hk => hk.2) (.int .i64 0)) (fun _ hk => hk.2) (.slice Ao14 y293.length co14)) (fun _ hk => trivial)⟩, ⟨by (with_reducible repeat (first | refine blk_drewN ?_ _ | refine blk_drew ?_ | refine blk_alloc ?_ _)); refine blk_put (cs := #[.int .i64 0, .slice none 0 0]) ?_ 1 _ rfl; (with_reducible repeat (first | refine blk_drewN ?_ _ | refine blk_drew ?_ | refine blk_alloc ?_ _)); refine blk_put (cs := #[.int .i64 0, .slice none 0 0]) ?_ 0 _ rfl; (with_reducible repeat (first | refine blk_drewN ?_ _ | refine blk_drew ?_ | refine blk_alloc ?_ _)); exact BK296.out⟩, ⟨by repeat (first | (with_reducible first | exact HB.out | apply below_alloc | apply pw_below_drewN | apply below_drew1 | refine below_set ?_ GE296.out) | exact HB.out)⟩⟩
              · rw [if_neg c18] at H
                have c18b0 : decide (500 < (Int.tmod x1_4 511)) = false := decide_eq_false c18
                clear c18
                have H' := Aside0.mk H
                clear H
                go_wp2
                go_meet
                case rel => exact ⟨_, (decide ((wrap64 ((Int.tmod x0_2 511) + (Int.tmod x1_4 511))) > 500)), (by first | rfl | (simp; done) | (simp [*]; done)), H', ⟨by have := HJ2.out; have := HJ4.out; first | omega | exact Nat.le_refl _⟩, ⟨by (with_reducible repeat (first | apply Kd.R_alloc | apply Kd.R_drewN | apply Kd.R_drew)); exact Kd.R_mono (Kd.R_far (p := ⟨gb296, 1, none⟩) (Kd.R_far (p := ⟨gb296, 0, none⟩) (Kd.R_types HO295.out BK296.out (by decide)) (fun _ hk => hk.2) (.int .i64 0)) (fun _ hk => hk.2) (.slice Ao14 y293.length co14)) (fun _ hk => trivial)⟩, ⟨by (with_reducible repeat (first | refine blk_drewN ?_ _ | refine blk_drew ?_ | refine blk_alloc ?_ _)); refine blk_put (cs := #[.int .i64 0, .slice none 0 0]) ?_ 1 _ rfl; (with_reducible repeat (first | refine blk_drewN ?_ _ | refine blk_drew ?_ | refine blk_alloc ?_ _)); refine blk_put (cs := #[.int .i64 0, .slice none 0 0]) ?_ 0 _ rfl; (with_reducible repeat (first | refine blk_drewN ?_ _ | refine blk_drew ?_ | refine blk_alloc ?_ _)); exact BK296.out⟩, ⟨by repeat (first | (with_reducible first | exact HB.out | apply below_alloc | apply pw_below_drewN | apply below_drew1 | refine below_set ?_ GE296.out) | exact HB.out)⟩⟩
          case rest =>
            clear HC9
            try clear c1
            try clear c2
            try clear p2
            try clear c3
            try clear c4
            try clear c4b0
            try clear c5
            try clear c6
            try clear c6b0
            try clear p6
            try clear c17
            try clear c17b0
            try clear c18
            try clear c18b0
            try clear hcz16_0
            try clear hcz16_1
            try clear hfz16_0
            try clear hfz16_1
            try clear p2
            try clear p6
            obtain ⟨kq, x40_8, rfl, HA, HJ8, HO_297001, BK296, HB⟩ := hcut
            cases kq with
            | zero => exact absurd HA.out (by simp [concordancelaw08_DocWords.j2])
            | succ kj8 =>
              have H := HA.out
              clear HA
              simp only [concordancelaw08_DocWords.j2] at H
              by_cases c19 : x40_8 = true
              · subst c19
                have H1 : ((doc_May.f 0 y293).bind fun t297 => (if t297 = 7 then (if 7 = 0 then ((doc_Weight.f 0 y293).bind fun t298 => (if t298 = (wrap64 ((Int.tmod x0_2 511) + (Int.tmod x1_4 511))) then ((concordancelaw08_lives.f kj8).bind fun t299 => (some t299)) else (some false))) else ((concordancelaw08_lives.f kj8).bind fun t300 => (some t300))) else (some false))) = some r := by rw [if_pos rfl] at H; exact H
                clear H
                have H := H1
                clear H1
                replace H := Option.bind_eq_some_iff.mp H
                obtain ⟨t297, A200, H⟩ := H
                replace H : (if t297 = 7 then (if 7 = 0 then ((doc_Weight.f 0 y293).bind fun t298 => (if t298 = (wrap64 ((Int.tmod x0_2 511) + (Int.tmod x1_4 511))) then ((concordancelaw08_lives.f kj8).bind fun t299 => (some t299)) else (some false))) else ((concordancelaw08_lives.f kj8).bind fun t300 => (some t300))) else (some false)) = some r := H
                have A20 := Aside0.mk A200
                clear A200
                by_cases c21 : t297 = 7
                · rw [if_pos c21] at H
                  have c21b0 : (t297 == 7) = true := beq_iff_eq.mpr c21
                  have c21b1 : (t297 != 7) = false := bne_eq_false_iff_eq.mpr c21
                  clear c21
                  by_cases c22 : 7 = 0
                  · exact absurd c22 (by decide)
                  · rw [if_neg c22] at H
                    have c22b0 : (7 == 0) = false := beq_eq_false_iff_ne.mpr c22
                    have c22b1 : (7 != 0) = true := bne_iff_ne.mpr c22
                    replace H := Option.bind_eq_some_iff.mp H
                    obtain ⟨t300, A350, H⟩ := H
                    replace H : (some t300) = some r := H
                    have A35 := Aside0.mk A350
                    clear A350
                    obtain rfl := Option.some.inj H
                    have hcz36_0 : wc.cell? ⟨gb296, 0, none⟩ = some (.int .i64 0) := (blk_cell BK296.out 0).trans rfl
                    have hcz36_1 : wc.cell? ⟨gb296, 1, none⟩ = some (.slice Ao14 y293.length co14) := (blk_cell BK296.out 1).trans rfl
                    have hfz36_0 := blk_frozen BK296.out 0
                    have hfz36_1 := blk_frozen BK296.out 1
                    go_wp2_with (first | ((with_reducible refine gate_callee (f := 6) rfl ?_); refine goesL_ (some 42) rfl rfl Tryd.func6 (by kernel_rfl) rfl #[.agg #[.int .i64 0, .slice Ao14 y293.length co14]] rfl (by (try simp only [List.map_toArray, List.map_cons, List.map_nil]); first | done | rfl | (simp only [List.length_drop, List.length_take]; rfl)) ?_; (with_reducible refine (doc_May.calls 0 _ _ y293 t297 _ ?side1 ?side2 A20.out).mono ?_); (case side1 => repeat (first | exact (Kd.R_reads' HO_297001.out).2.2 | (with_reducible refine Kd.C_alloc ?_ _) | (with_reducible refine Kd.C_drewN ?_ _) | (with_reducible refine Kd.C_drew ?_))); (case side2 => exact (Kd.R_reads' HO_297001.out).2.1); rintro e w37 ⟨rfl, hb⟩; refine ⟨_, rfl, ?_⟩; have n0_ := Aside0.mk (Kd.R_below (by (with_reducible repeat (first | apply Kd.R_alloc | apply Kd.R_drewN | apply Kd.R_drew)); exact HO_297001.out) hb); have n1_ := Aside0.mk (blk_below (g := gb296) (o := .cells #[.int .i64 0, .slice Ao14 y293.length co14] 27 (0, 0)) (by (with_reducible repeat (first | refine blk_drewN ?_ _ | refine blk_drew ?_ | refine blk_alloc ?_ _)); exact BK296.out) hb); have n2_ := Aside0.mk (below_step (by repeat (first | (with_reducible first | exact HB.out | apply below_alloc | apply pw_below_drewN | apply below_drew1 | refine below_set ?_ GE296.out) | exact HB.out)) hb); clear HO_297001; clear BK296; clear HB; have HO_297001 := n0_; have BK296 := n1_; have HB := n2_; clear n0_ n1_ n2_; (try clear hb); (try clear hb2); (try clear hk); (try clear hi)) | (go_at_call 8; (with_reducible refine (concordancelaw08_lives.calls kj8  t300 _ A35.out).mono ?_); rintro e w38 ⟨rfl, hb⟩; have n0_ := Aside0.mk (Kd.R_below (by (with_reducible repeat (first | apply Kd.R_alloc | apply Kd.R_drewN | apply Kd.R_drew)); exact HO_297001.out) hb); have n1_ := Aside0.mk (blk_below (g := gb296) (o := .cells #[.int .i64 0, .slice Ao14 y293.length co14] 27 (0, 0)) (by (with_reducible repeat (first | refine blk_drewN ?_ _ | refine blk_drew ?_ | refine blk_alloc ?_ _)); exact BK296.out) hb); have n2_ := Aside0.mk (below_step (by repeat (first | (with_reducible first | exact HB.out | apply below_alloc | apply pw_below_drewN | apply below_drew1 | refine below_set ?_ GE296.out) | exact HB.out)) hb); clear HO_297001; clear BK296; clear HB; have HO_297001 := n0_; have BK296 := n1_; have HB := n2_; clear n0_ n1_ n2_; (try clear hb); (try clear hb2); (try clear hk); (try clear hi)))
                    go_ret
                    exact ⟨by first | rfl | (simp [errW_none, errW_some] <;> rfl) | (simp [*, errW_none, errW_some] <;> rfl), by repeat (first | (with_reducible first | exact HB.out | apply below_alloc | apply pw_below_drewN | apply below_drew1 | refine below_set ?_ GE296.out) | exact HB.out)⟩
                · rw [if_neg c21] at H
                  have c21b0 : (t297 == 7) = false := beq_eq_false_iff_ne.mpr c21
                  have c21b1 : (t297 != 7) = true := bne_iff_ne.mpr c21
                  obtain rfl := Option.some.inj H
                  have hcz39_0 : wc.cell? ⟨gb296, 0, none⟩ = some (.int .i64 0) := (blk_cell BK296.out 0).trans rfl
                  have hcz39_1 : wc.cell? ⟨gb296, 1, none⟩ = some (.slice Ao14 y293.length co14) := (blk_cell BK296.out 1).trans rfl
                  have hfz39_0 := blk_frozen BK296.out 0
                  have hfz39_1 := blk_frozen BK296.out 1
                  go_wp2_with (first | ((with_reducible refine gate_callee (f := 6) rfl ?_); refine goesL_ (some 42) rfl rfl Tryd.func6 (by kernel_rfl) rfl #[.agg #[.int .i64 0, .slice Ao14 y293.length co14]] rfl (by (try simp only [List.map_toArray, List.map_cons, List.map_nil]); first | done | rfl | (simp only [List.length_drop, List.length_take]; rfl)) ?_; (with_reducible refine (doc_May.calls 0 _ _ y293 t297 _ ?side1 ?side2 A20.out).mono ?_); (case side1 => repeat (first | exact (Kd.R_reads' HO_297001.out).2.2 | (with_reducible refine Kd.C_alloc ?_ _) | (with_reducible refine Kd.C_drewN ?_ _) | (with_reducible refine Kd.C_drew ?_))); (case side2 => exact (Kd.R_reads' HO_297001.out).2.1); rintro e w40 ⟨rfl, hb⟩; refine ⟨_, rfl, ?_⟩; have n0_ := Aside0.mk (Kd.R_below (by (with_reducible repeat (first | apply Kd.R_alloc | apply Kd.R_drewN | apply Kd.R_drew)); exact HO_297001.out) hb); have n1_ := Aside0.mk (blk_below (g := gb296) (o := .cells #[.int .i64 0, .slice Ao14 y293.length co14] 27 (0, 0)) (by (with_reducible repeat (first | refine blk_drewN ?_ _ | refine blk_drew ?_ | refine blk_alloc ?_ _)); exact BK296.out) hb); have n2_ := Aside0.mk (below_step (by repeat (first | (with_reducible first | exact HB.out | apply below_alloc | apply pw_below_drewN | apply below_drew1 | refine below_set ?_ GE296.out) | exact HB.out)) hb); clear HO_297001; clear BK296; clear HB; have HO_297001 := n0_; have BK296 := n1_; have HB := n2_; clear n0_ n1_ n2_; (try clear hb); (try clear hb2); (try clear hk); (try clear hi)))
                  go_ret
                  exact ⟨by first | rfl | (simp [errW_none, errW_some] <;> rfl) | (simp [*, errW_none, errW_some] <;> rfl), by repeat (first | (with_reducible first | exact HB.out | apply below_alloc | apply pw_below_drewN | apply below_drew1 | refine below_set ?_ GE296.out) | exact HB.out)⟩
              · replace c19 := Bool.eq_false_iff.mpr c19
                subst c19
                have H1 : ((doc_May.f 0 y293).bind fun t301 => (if t301 = 0 then (if 0 = 0 then ((doc_Weight.f 0 y293).bind fun t302 => (if t302 = (wrap64 ((Int.tmod x0_2 511) + (Int.tmod x1_4 511))) then ((concordancelaw08_lives.f kj8).bind fun t303 => (some t303)) else (some false))) else ((concordancelaw08_lives.f kj8).bind fun t304 => (some t304))) else (some false))) = some r := by rw [if_neg (show ¬ (false = true) by decide)] at H; exact H
                clear H
                have H := H1
                clear H1
                replace H := Option.bind_eq_some_iff.mp H
                obtain ⟨t301, A410, H⟩ := H
                replace H : (if t301 = 0 then (if 0 = 0 then ((doc_Weight.f 0 y293).bind fun t302 => (if t302 = (wrap64 ((Int.tmod x0_2 511) + (Int.tmod x1_4 511))) then ((concordancelaw08_lives.f kj8).bind fun t303 => (some t303)) else (some false))) else ((concordancelaw08_lives.f kj8).bind fun t304 => (some t304))) else (some false)) = some r := H
                have A41 := Aside0.mk A410
                clear A410
                by_cases c42 : t301 = 0
                · rw [if_pos c42] at H
                  have c42b0 : (t301 == 0) = true := beq_iff_eq.mpr c42
                  have c42b1 : (t301 != 0) = false := bne_eq_false_iff_eq.mpr c42
                  clear c42
                  by_cases c43 : 0 = 0
                  · rw [if_pos c43] at H
                    have c43b0 : (0 == 0) = true := beq_iff_eq.mpr c43
                    have c43b1 : (0 != 0) = false := bne_eq_false_iff_eq.mpr c43
                    clear c43
                    replace H := Option.bind_eq_some_iff.mp H
                    obtain ⟨t302, A440, H⟩ := H
                    replace H : (if t302 = (wrap64 ((Int.tmod x0_2 511) + (Int.tmod x1_4 511))) then ((concordancelaw08_lives.f kj8).bind fun t303 => (some t303)) else (some false)) = some r := H
                    have A44 := Aside0.mk A440
                    clear A440
                    by_cases c45 : t302 = (wrap64 ((Int.tmod x0_2 511) + (Int.tmod x1_4 511)))
                    · rw [if_pos c45] at H
                      have c45b0 : (t302 == (wrap64 ((Int.tmod x0_2 511) + (Int.tmod x1_4 511)))) = true := beq_iff_eq.mpr c45
                      have c45b1 : (t302 != (wrap64 ((Int.tmod x0_2 511) + (Int.tmod x1_4 511)))) = false := bne_eq_false_iff_eq.mpr c45
                      clear c45
                      replace H := Option.bind_eq_some_iff.mp H
                      obtain ⟨t303, A460, H⟩ := H
                      replace H : (some t303) = some r := H
                      have A46 := Aside0.mk A460
                      clear A460
                      obtain rfl := Option.some.inj H
                      have hcz47_0 : wc.cell? ⟨gb296, 0, none⟩ = some (.int .i64 0) := (blk_cell BK296.out 0).trans rfl
                      have hcz47_1 : wc.cell? ⟨gb296, 1, none⟩ = some (.slice Ao14 y293.length co14) := (blk_cell BK296.out 1).trans rfl
                      have hfz47_0 := blk_frozen BK296.out 0
                      have hfz47_1 := blk_frozen BK296.out 1
                      go_wp2_with (first | ((with_reducible refine gate_callee (f := 6) rfl ?_); refine goesL_ (some 42) rfl rfl Tryd.func6 (by kernel_rfl) rfl #[.agg #[.int .i64 0, .slice Ao14 y293.length co14]] rfl (by (try simp only [List.map_toArray, List.map_cons, List.map_nil]); first | done | rfl | (simp only [List.length_drop, List.length_take]; rfl)) ?_; (with_reducible refine (doc_May.calls 0 _ _ y293 t301 _ ?side1 ?side2 A41.out).mono ?_); (case side1 => repeat (first | exact (Kd.R_reads' HO_297001.out).2.2 | (with_reducible refine Kd.C_alloc ?_ _) | (with_reducible refine Kd.C_drewN ?_ _) | (with_reducible refine Kd.C_drew ?_))); (case side2 => exact (Kd.R_reads' HO_297001.out).2.1); rintro e w48 ⟨rfl, hb⟩; refine ⟨_, rfl, ?_⟩; have n0_ := Aside0.mk (Kd.R_below (by (with_reducible repeat (first | apply Kd.R_alloc | apply Kd.R_drewN | apply Kd.R_drew)); exact HO_297001.out) hb); have n1_ := Aside0.mk (blk_below (g := gb296) (o := .cells #[.int .i64 0, .slice Ao14 y293.length co14] 27 (0, 0)) (by (with_reducible repeat (first | refine blk_drewN ?_ _ | refine blk_drew ?_ | refine blk_alloc ?_ _)); exact BK296.out) hb); have n2_ := Aside0.mk (below_step (by repeat (first | (with_reducible first | exact HB.out | apply below_alloc | apply pw_below_drewN | apply below_drew1 | refine below_set ?_ GE296.out) | exact HB.out)) hb); clear HO_297001; clear BK296; clear HB; have HO_297001 := n0_; have BK296 := n1_; have HB := n2_; clear n0_ n1_ n2_; (try clear hb); (try clear hb2); (try clear hk); (try clear hi); have hcz49_0 : w48.cell? ⟨gb296, 0, none⟩ = some (.int .i64 0) := (blk_cell BK296.out 0).trans rfl; have hcz49_1 : w48.cell? ⟨gb296, 1, none⟩ = some (.slice Ao14 y293.length co14) := (blk_cell BK296.out 1).trans rfl; have hfz49_0 := blk_frozen BK296.out 0; have hfz49_1 := blk_frozen BK296.out 1) | (go_at_call 7; (with_reducible refine (doc_Weight.calls 0 _ _ y293 t302 _ ?side1 ?side2 A44.out).mono ?_); (case side1 => repeat (first | exact (Kd.R_reads' HO_297001.out).2.2 | (with_reducible refine Kd.C_alloc ?_ _) | (with_reducible refine Kd.C_drewN ?_ _) | (with_reducible refine Kd.C_drew ?_))); (case side2 => exact (Kd.R_reads' HO_297001.out).2.1); rintro e w50 ⟨rfl, hb⟩; have n0_ := Aside0.mk (Kd.R_below (by (with_reducible repeat (first | apply Kd.R_alloc | apply Kd.R_drewN | apply Kd.R_drew)); exact HO_297001.out) hb); have n1_ := Aside0.mk (blk_below (g := gb296) (o := .cells #[.int .i64 0, .slice Ao14 y293.length co14] 27 (0, 0)) (by (with_reducible repeat (first | refine blk_drewN ?_ _ | refine blk_drew ?_ | refine blk_alloc ?_ _)); exact BK296.out) hb); have n2_ := Aside0.mk (below_step (by repeat (first | (with_reducible first | exact HB.out | apply below_alloc | apply pw_below_drewN | apply below_drew1 | refine below_set ?_ GE296.out) | exact HB.out)) hb); clear HO_297001; clear BK296; clear HB; have HO_297001 := n0_; have BK296 := n1_; have HB := n2_; clear n0_ n1_ n2_; (try clear hb); (try clear hb2); (try clear hk); (try clear hi)) | (go_at_call 8; (with_reducible refine (concordancelaw08_lives.calls kj8  t303 _ A46.out).mono ?_); rintro e w51 ⟨rfl, hb⟩; have n0_ := Aside0.mk (Kd.R_below (by (with_reducible repeat (first | apply Kd.R_alloc | apply Kd.R_drewN | apply Kd.R_drew)); exact HO_297001.out) hb); have n1_ := Aside0.mk (blk_below (g := gb296) (o := .cells #[.int .i64 0, .slice Ao14 y293.length co14] 27 (0, 0)) (by (with_reducible repeat (first | refine blk_drewN ?_ _ | refine blk_drew ?_ | refine blk_alloc ?_ _)); exact BK296.out) hb); have n2_ := Aside0.mk (below_step (by repeat (first | (with_reducible first | exact HB.out | apply below_alloc | apply pw_below_drewN | apply below_drew1 | refine below_set ?_ GE296.out) | exact HB.out)) hb); clear HO_297001; clear BK296; clear HB; have HO_297001 := n0_; have BK296 := n1_; have HB := n2_; clear n0_ n1_ n2_; (try clear hb); (try clear hb2); (try clear hk); (try clear hi)))
                      go_ret
                      exact ⟨by first | rfl | (simp [errW_none, errW_some] <;> rfl) | (simp [*, errW_none, errW_some] <;> rfl), by repeat (first | (with_reducible first | exact HB.out | apply below_alloc | apply pw_below_drewN | apply below_drew1 | refine below_set ?_ GE296.out) | exact HB.out)⟩
                    · rw [if_neg c45] at H
                      have c45b0 : (t302 == (wrap64 ((Int.tmod x0_2 511) + (Int.tmod x1_4 511)))) = false := beq_eq_false_iff_ne.mpr c45
                      have c45b1 : (t302 != (wrap64 ((Int.tmod x0_2 511) + (Int.tmod x1_4 511)))) = true := bne_iff_ne.mpr c45
                      obtain rfl := Option.some.inj H
                      have hcz52_0 : wc.cell? ⟨gb296, 0, none⟩ = some (.int .i64 0) := (blk_cell BK296.out 0).trans rfl
                      have hcz52_1 : wc.cell? ⟨gb296, 1, none⟩ = some (.slice Ao14 y293.length co14) := (blk_cell BK296.out 1).trans rfl
                      have hfz52_0 := blk_frozen BK296.out 0
                      have hfz52_1 := blk_frozen BK296.out 1
                      go_wp2_with (first | ((with_reducible refine gate_callee (f := 6) rfl ?_); refine goesL_ (some 42) rfl rfl Tryd.func6 (by kernel_rfl) rfl #[.agg #[.int .i64 0, .slice Ao14 y293.length co14]] rfl (by (try simp only [List.map_toArray, List.map_cons, List.map_nil]); first | done | rfl | (simp only [List.length_drop, List.length_take]; rfl)) ?_; (with_reducible refine (doc_May.calls 0 _ _ y293 t301 _ ?side1 ?side2 A41.out).mono ?_); (case side1 => repeat (first | exact (Kd.R_reads' HO_297001.out).2.2 | (with_reducible refine Kd.C_alloc ?_ _) | (with_reducible refine Kd.C_drewN ?_ _) | (with_reducible refine Kd.C_drew ?_))); (case side2 => exact (Kd.R_reads' HO_297001.out).2.1); rintro e w53 ⟨rfl, hb⟩; refine ⟨_, rfl, ?_⟩; have n0_ := Aside0.mk (Kd.R_below (by (with_reducible repeat (first | apply Kd.R_alloc | apply Kd.R_drewN | apply Kd.R_drew)); exact HO_297001.out) hb); have n1_ := Aside0.mk (blk_below (g := gb296) (o := .cells #[.int .i64 0, .slice Ao14 y293.length co14] 27 (0, 0)) (by (with_reducible repeat (first | refine blk_drewN ?_ _ | refine blk_drew ?_ | refine blk_alloc ?_ _)); exact BK296.out) hb); have n2_ := Aside0.mk (below_step (by repeat (first | (with_reducible first | exact HB.out | apply below_alloc | apply pw_below_drewN | apply below_drew1 | refine below_set ?_ GE296.out) | exact HB.out)) hb); clear HO_297001; clear BK296; clear HB; have HO_297001 := n0_; have BK296 := n1_; have HB := n2_; clear n0_ n1_ n2_; (try clear hb); (try clear hb2); (try clear hk); (try clear hi); have hcz54_0 : w53.cell? ⟨gb296, 0, none⟩ = some (.int .i64 0) := (blk_cell BK296.out 0).trans rfl; have hcz54_1 : w53.cell? ⟨gb296, 1, none⟩ = some (.slice Ao14 y293.length co14) := (blk_cell BK296.out 1).trans rfl; have hfz54_0 := blk_frozen BK296.out 0; have hfz54_1 := blk_frozen BK296.out 1) | (go_at_call 7; (with_reducible refine (doc_Weight.calls 0 _ _ y293 t302 _ ?side1 ?side2 A44.out).mono ?_); (case side1 => repeat (first | exact (Kd.R_reads' HO_297001.out).2.2 | (with_reducible refine Kd.C_alloc ?_ _) | (with_reducible refine Kd.C_drewN ?_ _) | (with_reducible refine Kd.C_drew ?_))); (case side2 => exact (Kd.R_reads' HO_297001.out).2.1); rintro e w55 ⟨rfl, hb⟩; have n0_ := Aside0.mk (Kd.R_below (by (with_reducible repeat (first | apply Kd.R_alloc | apply Kd.R_drewN | apply Kd.R_drew)); exact HO_297001.out) hb); have n1_ := Aside0.mk (blk_below (g := gb296) (o := .cells #[.int .i64 0, .slice Ao14 y293.length co14] 27 (0, 0)) (by (with_reducible repeat (first | refine blk_drewN ?_ _ | refine blk_drew ?_ | refine blk_alloc ?_ _)); exact BK296.out) hb); have n2_ := Aside0.mk (below_step (by repeat (first | (with_reducible first | exact HB.out | apply below_alloc | apply pw_below_drewN | apply below_drew1 | refine below_set ?_ GE296.out) | exact HB.out)) hb); clear HO_297001; clear BK296; clear HB; have HO_297001 := n0_; have BK296 := n1_; have HB := n2_; clear n0_ n1_ n2_; (try clear hb); (try clear hb2); (try clear hk); (try clear hi)))
                      go_ret
                      exact ⟨by first | rfl | (simp [errW_none, errW_some] <;> rfl) | (simp [*, errW_none, errW_some] <;> rfl), by repeat (first | (with_reducible first | exact HB.out | apply below_alloc | apply pw_below_drewN | apply below_drew1 | refine below_set ?_ GE296.out) | exact HB.out)⟩
                  · exact absurd rfl c43
                · rw [if_neg c42] at H
                  have c42b0 : (t301 == 0) = false := beq_eq_false_iff_ne.mpr c42
                  have c42b1 : (t301 != 0) = true := bne_iff_ne.mpr c42
                  obtain rfl := Option.some.inj H
                  have hcz60_0 : wc.cell? ⟨gb296, 0, none⟩ = some (.int .i64 0) := (blk_cell BK296.out 0).trans rfl
                  have hcz60_1 : wc.cell? ⟨gb296, 1, none⟩ = some (.slice Ao14 y293.length co14) := (blk_cell BK296.out 1).trans rfl
                  have hfz60_0 := blk_frozen BK296.out 0
                  have hfz60_1 := blk_frozen BK296.out 1
                  go_wp2_with (first | ((with_reducible refine gate_callee (f := 6) rfl ?_); refine goesL_ (some 42) rfl rfl Tryd.func6 (by kernel_rfl) rfl #[.agg #[.int .i64 0, .slice Ao14 y293.length co14]] rfl (by (try simp only [List.map_toArray, List.map_cons, List.map_nil]); first | done | rfl | (simp only [List.length_drop, List.length_take]; rfl)) ?_; (with_reducible refine (doc_May.calls 0 _ _ y293 t301 _ ?side1 ?side2 A41.out).mono ?_); (case side1 => repeat (first | exact (Kd.R_reads' HO_297001.out).2.2 | (with_reducible refine Kd.C_alloc ?_ _) | (with_reducible refine Kd.C_drewN ?_ _) | (with_reducible refine Kd.C_drew ?_))); (case side2 => exact (Kd.R_reads' HO_297001.out).2.1); rintro e w61 ⟨rfl, hb⟩; refine ⟨_, rfl, ?_⟩; have n0_ := Aside0.mk (Kd.R_below (by (with_reducible repeat (first | apply Kd.R_alloc | apply Kd.R_drewN | apply Kd.R_drew)); exact HO_297001.out) hb); have n1_ := Aside0.mk (blk_below (g := gb296) (o := .cells #[.int .i64 0, .slice Ao14 y293.length co14] 27 (0, 0)) (by (with_reducible repeat (first | refine blk_drewN ?_ _ | refine blk_drew ?_ | refine blk_alloc ?_ _)); exact BK296.out) hb); have n2_ := Aside0.mk (below_step (by repeat (first | (with_reducible first | exact HB.out | apply below_alloc | apply pw_below_drewN | apply below_drew1 | refine below_set ?_ GE296.out) | exact HB.out)) hb); clear HO_297001; clear BK296; clear HB; have HO_297001 := n0_; have BK296 := n1_; have HB := n2_; clear n0_ n1_ n2_; (try clear hb); (try clear hb2); (try clear hk); (try clear hi)))
                  go_ret
                  exact ⟨by first | rfl | (simp [errW_none, errW_some] <;> rfl) | (simp [*, errW_none, errW_some] <;> rfl), by repeat (first | (with_reducible first | exact HB.out | apply below_alloc | apply pw_below_drewN | apply below_drew1 | refine below_set ?_ GE296.out) | exact HB.out)⟩

end Go.Proofs.YtbbfilmajiilhaaDoor.PAll
