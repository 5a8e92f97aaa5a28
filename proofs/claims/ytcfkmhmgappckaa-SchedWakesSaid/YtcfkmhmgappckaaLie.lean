/- Wait and Rest, where they may be. No condition but on size. -/
import Derived.Test.YtcfkmhmgappckaaUnlock
import Derived.Deep.DrawnRows
namespace Go.Proofs.Ytcfkmhmgappckaa
open Go.RowKit Go.Proofs.Ytcfkmhmgappckaa.Sc Go.Proofs.Ytcfkmhmgappckaa.PAll Go.Proofs.YtcfkmhmgappckaaW.PrintWords Go.Proofs.YtcfkmhmgappckaaW.PrintLast Go.Proofs.YtcfkmhmgappckaaW.PrintMore

section
variable {w w1 : World} {base g bT bM bR : Nat} {vs us : List (Option Nat × Value)} {S : Sd}
theorem IsS.cR (h : IsS w base g bT bM bR vs us S) (c : Nat) (hc : c < S.R.length) : ∃ u, us[c]? = some u ∧ w.cell? ⟨bR, c, none⟩ = some u.2 := by
  have hu : c < us.length := by have := h.lenU; omega
  exact ⟨us[c], List.getElem?_eq_getElem hu, by simp [World.cell?, h.R, hu]⟩
/-- Another row for a condition. -/
theorem IsS.setU (h : IsS w base g bT bM bR vs us S) (c : Nat) (hc : c < S.R.length) {ob : Option Nat} {u0 : Value} (hu : us[c]? = some (ob, u0)) (hg : w.grownBy w1 ob) {ob' : Option Nat} {v' : Value} {x' : List (Int × Int)}
    (hR : RowIn w1 base 67 2 ob' v' (pairs x')) (hob : ob' = none ∨ ob' = ob ∨ ∃ k, ob' = some k ∧ w.heap.size ≤ k) :
    IsS (w1.setCell ⟨bR, c, none⟩ v') base g bT bM bR vs (us.set c (ob', v')) (Sc.setR S c x') := by
  have hul : c < us.length := by have := h.lenU; omega
  have hmem : (ob, u0) ∈ vs ++ us := by have := List.mem_of_getElem? hu; simp [this]
  have hfar : ∀ b, (b = g ∨ b = bT ∨ b = bM ∨ b = bR) → w1.heap[b]? = w.heap[b]? := fun b hb => hg.block b (h.blocks hb).2 (fun e => h.far hb _ hmem e.symm)
  have hs : ∀ k, k ≠ bR → (w1.setCell ⟨bR, c, none⟩ v').heap[k]? = w1.heap[k]? := fun k hk => Below.heap_setCell w1 ⟨bR, c, none⟩ _ k hk
  obtain ⟨n1, n2, n3, n4, n5, n6⟩ := h.ne3
  have hbR : ob' ≠ some bR := by
    rcases hob with e | e | ⟨k, e, hk⟩
    · rw [e]; simp
    · rw [e]; exact h.far (by simp) _ hmem
    · rw [e]; have := (h.blocks (b := bR) (by simp)).2; intro e2; cases e2; omega
  have hap := h.apart
  have hat : (vs ++ us)[vs.length + c]? = some (ob, u0) := by rw [List.getElem?_append_right (by omega), Nat.add_sub_cancel_left]; exact hu
  have hothers : ∀ (i : Nat) (x : Option Nat × Value), (vs ++ us)[i]? = some x → i ≠ vs.length + c → ∀ b, x.1 = some b → ob ≠ some b := by
    intro i x hi hne b hb e
    have hp := (List.pairwise_append.1 hap).2.1
    rw [List.pairwise_iff_getElem] at hp
    obtain ⟨hi2, hi3⟩ := List.getElem?_eq_some_iff.1 hi
    obtain ⟨hm2, hm3⟩ := List.getElem?_eq_some_iff.1 hat
    rcases Nat.lt_or_gt_of_ne hne with hlt | hlt
    · have := hp i (vs.length + c) (by simpa using hi2) (by simpa using hm2) hlt
      simp only [List.getElem_map, hi3, hm3, hb, e] at this
      simp at this
    · have := hp (vs.length + c) i (by simpa using hm2) (by simpa using hi2) hlt
      simp only [List.getElem_map, hi3, hm3, hb, e] at this
      simp at this
  have hkeep : ∀ (i : Nat) (x : Option Nat × Value), (vs ++ us)[i]? = some x → i ≠ vs.length + c → ∀ b, x.1 = some b → (w1.setCell ⟨bR, c, none⟩ v').heap[b]? = w.heap[b]? := by
    intro i x hi hne b hb
    have hx := List.mem_of_getElem? hi
    rw [hs b (fun e => h.far (b := bR) (by simp) x hx (by rw [hb, e]))]
    exact hg.block b (h.ltV x hx b hb).2 (fun e => hothers i x hi hne b hb e.symm)
  refine ⟨h.ge, ?_, h.geT, h.geM, h.geR, (hs _ n5).trans ((hfar bT (by simp)).trans h.T), h.lenV, (hs _ n6).trans ((hfar bM (by simp)).trans h.M), fun i a v p q => ?_, ?_, ?_, fun i a u p q => ?_, ?_⟩
  · rw [hs _ (Ne.symm n3), hfar g (by simp), h.cell]
    simp [Sc.setR]
  · exact (h.rows i a v p q).same (hkeep i v (by rw [List.getElem?_append_left (by have := (List.getElem?_eq_some_iff.1 q).1; exact this)]; exact q) (by have := (List.getElem?_eq_some_iff.1 q).1; omega))
  · rw [List.length_set, h.lenU]; simp [Sc.setR]
  · have hR2 := (hfar bR (by simp)).trans h.R
    simp [World.setCell, hR2, Array.getElem?_modify, List.map_set]
  · have p' : (S.R.set c x')[i]? = some a := by simpa [Sc.setR] using p
    by_cases e : c = i
    · subst e
      rw [List.getElem?_set_self hc] at p'
      rw [List.getElem?_set_self hul] at q
      obtain rfl := Option.some.inj p'
      obtain rfl := Option.some.inj q
      exact hR.same (fun b e => hs b (fun e2 => hbR (by rw [← e2, ← e])))
    · rw [List.getElem?_set_ne e] at p' q
      exact (h.rests i a u p' q).same (hkeep (vs.length + i) u (by rw [List.getElem?_append_right (by omega), Nat.add_sub_cancel_left]; exact q) (by omega))
  · have e1 : [some g, some bT, some bM, some bR] ++ (vs ++ us.set c (ob', v')).map (·.1) = ([some g, some bT, some bM, some bR] ++ (vs ++ us).map (·.1)).set (4 + (vs.length + c)) ob' := by
      rw [List.set_append_right _ _ (by simp), show vs ++ us.set c (ob', v') = (vs ++ us).set (vs.length + c) (ob', v') by rw [List.set_append_right _ _ (by omega), Nat.add_sub_cancel_left], List.map_set]
      congr 2
      simp
    rw [e1]
    rcases hob with rfl | rfl | ⟨k, rfl, hk⟩
    · exact pairwise_set (R := fun a b => a = none ∨ b = none ∨ a ≠ b) apart_symm _ _ _ hap (fun z _ => .inl rfl)
    · rw [set_self' _ _ _ (by
        rw [List.getElem?_append_right (by simp)]
        simp only [List.length_cons, List.length_nil, Nat.add_sub_cancel_left, List.getElem?_map, hat, Option.map_some])]
      exact hap
    · refine pairwise_set (R := fun a b => a = none ∨ b = none ∨ a ≠ b) apart_symm _ _ _ hap (fun z hz => ?_)
      cases z with
      | none => exact .inr (.inl rfl)
      | some b =>
        refine .inr (.inr fun e => ?_)
        cases e
        rcases List.mem_append.1 hz with hz | hz
        · have := (h.blocks (b := k) (by simpa using hz)).2; omega
        · obtain ⟨x, hx, e⟩ := List.mem_map.1 hz
          have := (h.ltV x hx k e).2; omega
end
theorem infoRest : (Try.prog.info? 67).map (fun i => (i.zero, i.size, i.bytes)) = some (some (.agg #[.int .i64 0, .int .i64 0]), 2, 16) := by kernel_rfl
attribute [local go_sem ↓] Go.wp_at_zero Go.wp_at_succ
set_option maxHeartbeats 4000000 in
set_option maxRecDepth 100000 in
theorem wait_nat {w : World} {base g : Nat} {F : Nat → Prop} {S : Sd} (h : Sch w base g F S) (hb : base ≤ w.heap.size) (hk : Ok S []) (lT : S.T.length ≤ 1000) (lM : S.M.length ≤ 1000) (lR : S.R.length ≤ 1000) (t c : Nat) (m : Int) (hE : waitE S t c m = 0) :
    Calls Try.prog 15 #[.pointer (some ⟨g, 0, none⟩), .int .i64 (t : Int), .int .i64 (c : Int), .int .i64 m] w fun e w' => e = .returned (.int .i64 0) ∧ Next w base g F ((wait S t c m).1) w' := by
  obtain ⟨i0, hi, hz0, hz1, hz2⟩ := info_parts infoRest
  have HST := Lib.hid (state_sch h lT t)
  have HOW := Lib.hid (owner_sch h lM m)
  have hle := waitE_eq S t c m
  rw [hE] at hle
  have hx := (first_eq _ _).1 hle
  simp only [Bool.and_eq_true, beq_iff_eq] at hx
  have hT := hx.1.1.1
  have hM := hx.1.1.2
  have hR := hx.1.2
  rw [hT, hM, hR] at hle
  simp only [Bool.true_and, Bool.and_true] at hle
  have ht0 : stT S t = 0 := hx.2.1
  have ht1 : t < S.T.length := by have := (there_iff _ _).1 hT; omega
  have hc1 : c < S.R.length := by have := (there_iff _ _).1 hR; omega
  have hre : S.R.getD (c : Int).toNat [] = S.R[c] := by rw [Int.toNat_natCast, List.getD_eq_getElem?_getD, List.getElem?_eq_getElem hc1]; rfl
  have hko := hk.lie (t : Int) (c : Int) m ht0 hR (.inr hM)
  rw [hre] at hko
  have hrl : (S.R[c]).length ≤ 1000 := Nat.le_trans (hk.restFew _ (List.getElem_mem _)) lT
  obtain ⟨bT, bM, bR, vs, us, hS, f1, f2, f3, f4, f5⟩ := h.2
  have d0 := hS.c0
  have d1 := hS.c1
  have d2 := hS.c2
  have HS := Lib.hid hS
  have HH := Lib.hid h
  have HKO := Lib.hid hko
  have HLE := Lib.hid hle
  have HF5 := Lib.hid f5
  have HE := Lib.hid hE
  clear hle hx h hS hk hko f5 hE hre ht0
  go_enter Try.func15, Try.ntmps15
  go_wp2_with fail
  refine (in_int _ _ _ _ _ (by omega)).mono ?_
  rintro e w' ⟨rfl, hw'⟩
  rw [hw']
  clear hw' w'
  rw [inB_there, hT]
  go_wp2_with fail
  refine (in_mutex _ _ _ _ _ (by omega)).mono ?_
  rintro e w' ⟨rfl, hw'⟩
  rw [hw']
  clear hw' w'
  rw [inB_there, hM]
  go_wp2_with fail
  refine (in_rests _ _ _ _ _ (by omega)).mono ?_
  rintro e w' ⟨rfl, hw'⟩
  rw [hw']
  clear hw' w'
  rw [inB_there, hR]
  go_wp2_with fail
  refine HST.out.mono ?_
  rintro e w' ⟨rfl, hw'⟩
  rw [hw']
  clear hw' w'
  go_wp2_with fail
  refine HOW.out.mono ?_
  rintro e w' ⟨rfl, hw'⟩
  rw [hw']
  clear hw' w'
  go_wp2_with fail
  refine (first_two _ _ _ _ _ (cell_at_new _ _ _ 0 _ rfl) (cell_at_new _ _ _ 1 _ rfl)).mono ?_
  rintro e w1 ⟨rfl, hb1⟩
  have HB := Lib.hid ((below_alloc (Below.refl _ _) _).trans (hb1.mono (by simp)))
  clear hb1
  have hle := HLE.out
  rw [hle]
  clear hle
  have h1 := HS.out.below HB.out
  have d0 := h1.c0
  have d4 := h1.cT t ht1
  have z4 : w1.frozen? ⟨bT, t, none⟩ = false := by simp [World.frozen?, h1.T]
  have g2 : ((t : Nat) : Int) < (S.T.length : Int) := by omega
  have h2 := h1.setT t ht1 2
  have H2 := Lib.hid h2
  clear h1 h2
  go_upto_region 4 with fail
  obtain ⟨w2, hw2⟩ : ∃ w2, w2 = w1.setCell ⟨bT, t, none⟩ (.int .i64 2) := ⟨_, rfl⟩
  have hM2 : ∀ F : Nat → Prop, F bT → Moves F w w2 := fun F hF => by rw [hw2]; exact (((Moves.refl F w).below HB.out).store _ _ hF)
  have HM2 := Lib.hid hM2
  rw [← hw2] at H2 ⊢
  have h2 := H2.out
  have hc2 : c < (Sc.setT S t 2).R.length := hc1
  obtain ⟨⟨ob, u0⟩, hu, d6⟩ := h2.cR c hc2
  have hR2 := h2.rests c _ _ (List.getElem?_eq_getElem hc2) hu
  have d7 := h2.c2
  obtain ⟨n1, n2, n3, n4, n5, n6⟩ := h2.ne3
  have g3 : ((c : Nat) : Int) < (S.R.length : Int) := by omega
  have hmem : (ob, u0) ∈ vs ++ us := by have := List.mem_of_getElem? hu; simp [this]
  have q1 := (World.cell?_alloc_some w2 _ (Obj.cells #[Value.int IntKind.i64 ↑t, Value.int IntKind.i64 m] 67 (0, 0)) (by rw [d7]; rfl)).trans d7
  have q2 := (World.cell?_alloc_some w2 _ (Obj.cells #[Value.int IntKind.i64 ↑t, Value.int IntKind.i64 m] 67 (0, 0)) (by rw [d6]; rfl)).trans d6
  have hk1 : ∀ o : Obj, (w2.drew.alloc o).heap.size = w2.heap.size + 1 := fun o => by simp
  have hk2 : ∀ (o : Obj) k, k < w2.heap.size → (w2.drew.alloc o).heap[k]? = w2.heap[k]? := fun o k hk => (Below.refl w2.heap.size w2.drew).alloc (Nat.le_refl _) o |>.block k hk
  have hW : ∀ o : Obj, IsS (w2.drew.alloc o) base g bT bM bR vs us (Sc.setT S t 2) := fun o => h2.kept (hk2 o)
  have hRW : ∀ o : Obj, RowIn (w2.drew.alloc o) base 67 2 ob u0 (pairs (S.R[c])) := fun o => (hW o).rests c _ _ (List.getElem?_eq_getElem hc2) hu
  have hszM : base ≤ w2.heap.size := Nat.le_trans hb (HM2.out (fun _ => True) trivial).size
  have hbW : ∀ o : Obj, base ≤ (w2.drew.alloc o).heap.size := fun o => by rw [hk1]; omega
  have hF : ∀ (o : Obj) (w1 : World), (w2.drew.alloc o).grownBy w1 ob → w1.cell? ⟨bR, c, none⟩ = some u0 ∧ w1.frozen? ⟨bR, c, none⟩ = false ∧ w1.cell? ⟨g, 2, none⟩ = some (.slice (some ⟨bR, 0, none⟩) S.R.length S.R.length) := by
    intro o w1 hgr
    have hx : ∀ b, (b = g ∨ b = bT ∨ b = bM ∨ b = bR) → w1.heap[b]? = w2.heap[b]? := fun b hb2 =>
      (hgr.block b (by rw [hk1]; exact Nat.lt_succ_of_lt (h2.blocks hb2).2) (fun e => h2.far hb2 _ hmem e.symm)).trans (hk2 o b (h2.blocks hb2).2)
    refine ⟨?_, ?_, ?_⟩
    · rw [← d6]; unfold World.cell?; simp only [hx bR (by simp)]
    · unfold World.frozen?; simp only [hx bR (by simp), h2.R]; rfl
    · refine Eq.trans ?_ d7; unfold World.cell?; simp only [hx g (by simp)]
  have hc0 : ∀ j u, [Value.int .i64 (t : Int), Value.int .i64 m][j]? = some u → (w2.drew.alloc (Obj.cells #[Value.int IntKind.i64 ↑t, Value.int IntKind.i64 m] 67 (0, 0))).cell? ((⟨w2.heap.size, 0, none⟩ : Addr).add j) = some u := by
    intro j u hj
    rw [Addr.add_lit]
    match j with
    | 0 => obtain rfl : Value.int .i64 (t : Int) = u := by simpa using hj
           exact cell_at_new w2.drew _ _ 0 _ rfl
    | 1 => obtain rfl : Value.int .i64 m = u := by simpa using hj
           exact cell_at_new w2.drew _ _ 1 _ rfl
    | j + 2 => simp at hj
  have hone : ∀ u ∈ [Value.int .i64 (t : Int), Value.int .i64 m], u.oneCell' = true := by simp [Value.oneCell']
  have hpl : (pairs (S.R[c])).length = (S.R[c]).length := by simp [pairs]
  have hb1 : (pairs (S.R[c])).length + 1 ≤ maxLen := by unfold maxLen; omega
  have hb2 : ((pairs (S.R[c])).length + 1) * 16 ≤ 140737488355328 := by omega
  have HW := Lib.hid hW
  have HRW := Lib.hid hRW
  have HBW := Lib.hid hbW
  have HFF := Lib.hid hF
  have HC0 := Lib.hid hc0
  have HU := Lib.hid hu
  have HK1 := Lib.hid hk1
  clear hW hRW hbW hF hc0 hk1 hk2 h2 hM2 hR2 hu hw2 d4 z4 hpl
  go_region_law ((refine step_push rfl (.tmp 62) (.tmp 66) 65 rfl 67 i0 (.agg #[.int .i64 0, .int .i64 0]) 2 16 Try.underlying65 hi hz0 hz1 hz2 rfl (by decide) (HRW.out _) rfl ⟨w2.heap.size, 0, none⟩ 1 [.int .i64 (t : Int), .int .i64 m] rfl rfl HC0.out hone hb1 hb2 (HBW.out _) ?_; intro ob' A' n' c' w3 hR3 hgrow hob; obtain ⟨y1, y2, y3⟩ := HFF.out _ _ hgrow))
  all_goals
    have h0 := HW.out (Obj.cells #[Value.int IntKind.i64 ↑t, Value.int IntKind.i64 m] 67 (0, 0))
    have hr : pairs (S.R[c]) ++ [[Value.int .i64 (t : Int), .int .i64 m]] = pairs (S.R[c] ++ [((t : Int), m)]) := by simp [pairs]
    rw [hr] at hR3
    have h4 := h0.setU c hc2 HU.out hgrow hR3 (.inr (hob.imp id (fun ⟨k, e1, e2⟩ => ⟨k, e1, e2⟩)))
    have hobF : ∀ k, ob = some k → F k := fun k hk => HF5.out (ob, u0) hmem k hk
    have hmv : Moves F w (w3.setCell ⟨bR, c, none⟩ (.slice A' n' c')) :=
      (((HM2.out F f2).below ((Below.refl w.heap.size w2).drew.alloc (HM2.out F f2).size (Obj.cells #[Value.int IntKind.i64 ↑t, Value.int IntKind.i64 m] 67 (0, 0)))).grown hgrow (fun k hk => .inl (hobF k hk))).store _ _ f4
    have hnx : Next w base g F (setR (setT S t 2) c (S.R[c] ++ [((t : Int), m)])) (w3.setCell ⟨bR, c, none⟩ (.slice A' n' c')) := HH.out.next hb h4 hmv ⟨f1, f2, f3, f4⟩ (fun x hx k hk => by
      rcases List.mem_append.1 hx with hx | hx
      · exact .inl (HF5.out x (List.mem_append.2 (.inl hx)) k hk)
      · rcases mem_set_or hx with hx | rfl
        · exact .inl (HF5.out x (List.mem_append.2 (.inr hx)) k hk)
        · rcases hob with e | ⟨k2, e, hk2⟩
          · exact .inl (hobF k (by rw [← e]; exact hk))
          · refine .inr ?_
            have : some k2 = some k := e.symm.trans hk
            cases this
            have := HM2.out F f2
            exact Nat.le_trans this.size (Nat.le_trans (Nat.le_succ _) (Nat.le_trans (Nat.le_of_eq (HK1.out _).symm) hk2)))
    have HNX := Lib.hid hnx
    clear h0 h4 hmv hnx hob hR3 hgrow hobF
    have hgv : Calls Try.prog 32 #[.pointer (some ⟨g, 0, none⟩), .int .i64 m] (w3.setCell ⟨bR, c, none⟩ (.slice A' n' c')) fun e w' => e = .returned (.tuple #[]) ∧ Next (w3.setCell ⟨bR, c, none⟩ (.slice A' n' c')) base g (Plus F w (w3.setCell ⟨bR, c, none⟩ (.slice A' n' c'))) (give (setR (setT S t 2) c (S.R[c] ++ [((t : Int), m)])) m) w' :=
      give_any HNX.out.1 (Nat.le_trans hb HNX.out.2.size) m hM (fun u r hu => Ok.giveT HKO.out m hM u r hu)
    have HGV := Lib.hid hgv
    clear hgv
    go_wp2_with fail
    refine HGV.out.mono ?_
    rintro e w5 ⟨rfl, hn5⟩
    have HN5 := Lib.hid (HNX.out.trans hn5)
    clear hn5
    go_wp2_with fail
    go_ret
    refine ⟨rfl, ?_⟩
    have hwt : (wait S t c m).1 = give (setR (setT S t 2) c (S.R[c] ++ [((t : Int), m)])) m := by
      have hre : S.R.getD (c : Int).toNat [] = S.R[c] := by rw [Int.toNat_natCast, List.getD_eq_getElem?_getD, List.getElem?_eq_getElem hc1]; rfl
      unfold Sc.wait
      rw [if_pos HE.out, hre]
    rw [hwt]
    exact HN5.out
set_option maxHeartbeats 4000000 in
set_option maxRecDepth 100000 in
theorem rest_nat {w : World} {base g : Nat} {F : Nat → Prop} {S : Sd} (h : Sch w base g F S) (hb : base ≤ w.heap.size) (hk : Ok S []) (lT : S.T.length ≤ 1000) (lM : S.M.length ≤ 1000) (lR : S.R.length ≤ 1000) (t c : Nat) (hE : restE S t c = 0) :
    Calls Try.prog 26 #[.pointer (some ⟨g, 0, none⟩), .int .i64 (t : Int), .int .i64 (c : Int)] w fun e w' => e = .returned (.int .i64 0) ∧ Next w base g F ((Sc.rest S t c).1) w' := by
  obtain ⟨i0, hi, hz0, hz1, hz2⟩ := info_parts infoRest
  have HST := Lib.hid (state_sch h lT t)
  have hle := restE_eq S t c
  rw [hE] at hle
  have hx := (first_eq _ _).1 hle
  simp only [Bool.and_eq_true, beq_iff_eq] at hx
  have hT := hx.1.1
  have hR := hx.1.2
  rw [hT, hR] at hle
  simp only [Bool.true_and, Bool.and_true] at hle
  have ht0 : stT S t = 0 := hx.2
  have ht1 : t < S.T.length := by have := (there_iff _ _).1 hT; omega
  have hc1 : c < S.R.length := by have := (there_iff _ _).1 hR; omega
  have hre : S.R.getD (c : Int).toNat [] = S.R[c] := by rw [Int.toNat_natCast, List.getD_eq_getElem?_getD, List.getElem?_eq_getElem hc1]; rfl
  have hko := hk.lie (t : Int) (c : Int) (-1) ht0 hR (.inl rfl)
  rw [hre] at hko
  have hrl : (S.R[c]).length ≤ 1000 := Nat.le_trans (hk.restFew _ (List.getElem_mem _)) lT
  obtain ⟨bT, bM, bR, vs, us, hS, f1, f2, f3, f4, f5⟩ := h.2
  have d0 := hS.c0
  have d1 := hS.c1
  have d2 := hS.c2
  have HS := Lib.hid hS
  have HH := Lib.hid h
  have HKO := Lib.hid hko
  have HLE := Lib.hid hle
  have HF5 := Lib.hid f5
  have HE := Lib.hid hE
  clear hle hx h hS hk hko f5 hE hre ht0
  go_enter Try.func26, Try.ntmps26
  go_wp2_with fail
  refine (in_int _ _ _ _ _ (by omega)).mono ?_
  rintro e w' ⟨rfl, hw'⟩
  rw [hw']
  clear hw' w'
  rw [inB_there, hT]
  go_wp2_with fail
  refine (in_rests _ _ _ _ _ (by omega)).mono ?_
  rintro e w' ⟨rfl, hw'⟩
  rw [hw']
  clear hw' w'
  rw [inB_there, hR]
  go_wp2_with fail
  refine HST.out.mono ?_
  rintro e w' ⟨rfl, hw'⟩
  rw [hw']
  clear hw' w'
  go_wp2_with fail
  refine (first_one _ _ _ _ (cell_at_new _ _ _ 0 _ rfl)).mono ?_
  rintro e w1 ⟨rfl, hb1⟩
  have HB := Lib.hid ((below_alloc (Below.refl _ _) _).trans (hb1.mono (by simp)))
  clear hb1
  have hle := HLE.out
  rw [hle]
  clear hle
  have h1 := HS.out.below HB.out
  have d0 := h1.c0
  have d4 := h1.cT t ht1
  have z4 : w1.frozen? ⟨bT, t, none⟩ = false := by simp [World.frozen?, h1.T]
  have g2 : ((t : Nat) : Int) < (S.T.length : Int) := by omega
  have h2 := h1.setT t ht1 2
  have H2 := Lib.hid h2
  clear h1 h2
  go_upto_region 4 with fail
  obtain ⟨w2, hw2⟩ : ∃ w2, w2 = w1.setCell ⟨bT, t, none⟩ (.int .i64 2) := ⟨_, rfl⟩
  have hM2 : ∀ F : Nat → Prop, F bT → Moves F w w2 := fun F hF => by rw [hw2]; exact (((Moves.refl F w).below HB.out).store _ _ hF)
  have HM2 := Lib.hid hM2
  rw [← hw2] at H2 ⊢
  have h2 := H2.out
  have hc2 : c < (Sc.setT S t 2).R.length := hc1
  obtain ⟨⟨ob, u0⟩, hu, d6⟩ := h2.cR c hc2
  have hR2 := h2.rests c _ _ (List.getElem?_eq_getElem hc2) hu
  have d7 := h2.c2
  obtain ⟨n1, n2, n3, n4, n5, n6⟩ := h2.ne3
  have g3 : ((c : Nat) : Int) < (S.R.length : Int) := by omega
  have hmem : (ob, u0) ∈ vs ++ us := by have := List.mem_of_getElem? hu; simp [this]
  have q1 := (World.cell?_alloc_some w2 _ (Obj.cells #[Value.int IntKind.i64 ↑t, Value.int IntKind.i64 (-1)] 67 (0, 0)) (by rw [d7]; rfl)).trans d7
  have q2 := (World.cell?_alloc_some w2 _ (Obj.cells #[Value.int IntKind.i64 ↑t, Value.int IntKind.i64 (-1)] 67 (0, 0)) (by rw [d6]; rfl)).trans d6
  have hk1 : ∀ o : Obj, (w2.drew.alloc o).heap.size = w2.heap.size + 1 := fun o => by simp
  have hk2 : ∀ (o : Obj) k, k < w2.heap.size → (w2.drew.alloc o).heap[k]? = w2.heap[k]? := fun o k hk => (Below.refl w2.heap.size w2.drew).alloc (Nat.le_refl _) o |>.block k hk
  have hW : ∀ o : Obj, IsS (w2.drew.alloc o) base g bT bM bR vs us (Sc.setT S t 2) := fun o => h2.kept (hk2 o)
  have hRW : ∀ o : Obj, RowIn (w2.drew.alloc o) base 67 2 ob u0 (pairs (S.R[c])) := fun o => (hW o).rests c _ _ (List.getElem?_eq_getElem hc2) hu
  have hszM : base ≤ w2.heap.size := Nat.le_trans hb (HM2.out (fun _ => True) trivial).size
  have hbW : ∀ o : Obj, base ≤ (w2.drew.alloc o).heap.size := fun o => by rw [hk1]; omega
  have hF : ∀ (o : Obj) (w1 : World), (w2.drew.alloc o).grownBy w1 ob → w1.cell? ⟨bR, c, none⟩ = some u0 ∧ w1.frozen? ⟨bR, c, none⟩ = false ∧ w1.cell? ⟨g, 2, none⟩ = some (.slice (some ⟨bR, 0, none⟩) S.R.length S.R.length) := by
    intro o w1 hgr
    have hx : ∀ b, (b = g ∨ b = bT ∨ b = bM ∨ b = bR) → w1.heap[b]? = w2.heap[b]? := fun b hb2 =>
      (hgr.block b (by rw [hk1]; exact Nat.lt_succ_of_lt (h2.blocks hb2).2) (fun e => h2.far hb2 _ hmem e.symm)).trans (hk2 o b (h2.blocks hb2).2)
    refine ⟨?_, ?_, ?_⟩
    · rw [← d6]; unfold World.cell?; simp only [hx bR (by simp)]
    · unfold World.frozen?; simp only [hx bR (by simp), h2.R]; rfl
    · refine Eq.trans ?_ d7; unfold World.cell?; simp only [hx g (by simp)]
  have hc0 : ∀ j u, [Value.int .i64 (t : Int), Value.int .i64 (-1)][j]? = some u → (w2.drew.alloc (Obj.cells #[Value.int IntKind.i64 ↑t, Value.int IntKind.i64 (-1)] 67 (0, 0))).cell? ((⟨w2.heap.size, 0, none⟩ : Addr).add j) = some u := by
    intro j u hj
    rw [Addr.add_lit]
    match j with
    | 0 => obtain rfl : Value.int .i64 (t : Int) = u := by simpa using hj
           exact cell_at_new w2.drew _ _ 0 _ rfl
    | 1 => obtain rfl : Value.int .i64 (-1) = u := by simpa using hj
           exact cell_at_new w2.drew _ _ 1 _ rfl
    | j + 2 => simp at hj
  have hone : ∀ u ∈ [Value.int .i64 (t : Int), Value.int .i64 (-1)], u.oneCell' = true := by simp [Value.oneCell']
  have hpl : (pairs (S.R[c])).length = (S.R[c]).length := by simp [pairs]
  have hb1 : (pairs (S.R[c])).length + 1 ≤ maxLen := by unfold maxLen; omega
  have hb2 : ((pairs (S.R[c])).length + 1) * 16 ≤ 140737488355328 := by omega
  have HW := Lib.hid hW
  have HRW := Lib.hid hRW
  have HBW := Lib.hid hbW
  have HFF := Lib.hid hF
  have HC0 := Lib.hid hc0
  have HU := Lib.hid hu
  have HK1 := Lib.hid hk1
  clear hW hRW hbW hF hc0 hk1 hk2 h2 hM2 hR2 hu hw2 d4 z4 hpl
  go_region_law ((refine step_push rfl (.tmp 47) (.tmp 50) 65 rfl 67 i0 (.agg #[.int .i64 0, .int .i64 0]) 2 16 Try.underlying65 hi hz0 hz1 hz2 rfl (by decide) (HRW.out _) rfl ⟨w2.heap.size, 0, none⟩ 1 [.int .i64 (t : Int), .int .i64 (-1)] rfl rfl HC0.out hone hb1 hb2 (HBW.out _) ?_; intro ob' A' n' c' w3 hR3 hgrow hob; obtain ⟨y1, y2, y3⟩ := HFF.out _ _ hgrow))
  all_goals
    have h0 := HW.out (Obj.cells #[Value.int IntKind.i64 ↑t, Value.int IntKind.i64 (-1)] 67 (0, 0))
    have hr : pairs (S.R[c]) ++ [[Value.int .i64 (t : Int), .int .i64 (-1)]] = pairs (S.R[c] ++ [((t : Int), (-1))]) := by simp [pairs]
    rw [hr] at hR3
    have h4 := h0.setU c hc2 HU.out hgrow hR3 (.inr (hob.imp id (fun ⟨k, e1, e2⟩ => ⟨k, e1, e2⟩)))
    have hobF : ∀ k, ob = some k → F k := fun k hk => HF5.out (ob, u0) hmem k hk
    have hmv : Moves F w (w3.setCell ⟨bR, c, none⟩ (.slice A' n' c')) :=
      (((HM2.out F f2).below ((Below.refl w.heap.size w2).drew.alloc (HM2.out F f2).size (Obj.cells #[Value.int IntKind.i64 ↑t, Value.int IntKind.i64 (-1)] 67 (0, 0)))).grown hgrow (fun k hk => .inl (hobF k hk))).store _ _ f4
    have hnx : Next w base g F (setR (setT S t 2) c (S.R[c] ++ [((t : Int), (-1 : Int))])) (w3.setCell ⟨bR, c, none⟩ (.slice A' n' c')) := HH.out.next hb h4 hmv ⟨f1, f2, f3, f4⟩ (fun x hx k hk => by
      rcases List.mem_append.1 hx with hx | hx
      · exact .inl (HF5.out x (List.mem_append.2 (.inl hx)) k hk)
      · rcases mem_set_or hx with hx | rfl
        · exact .inl (HF5.out x (List.mem_append.2 (.inr hx)) k hk)
        · rcases hob with e | ⟨k2, e, hk2⟩
          · exact .inl (hobF k (by rw [← e]; exact hk))
          · refine .inr ?_
            have : some k2 = some k := e.symm.trans hk
            cases this
            have := HM2.out F f2
            exact Nat.le_trans this.size (Nat.le_trans (Nat.le_succ _) (Nat.le_trans (Nat.le_of_eq (HK1.out _).symm) hk2)))
    have HNX := Lib.hid hnx
    clear h0 h4 hmv hnx hob hR3 hgrow hobF
    go_wp2_with fail
    go_ret
    refine ⟨rfl, ?_⟩
    have hwt : (Sc.rest S t c).1 = setR (setT S t 2) c (S.R[c] ++ [((t : Int), (-1 : Int))]) := by
      have hre : S.R.getD (c : Int).toNat [] = S.R[c] := by rw [Int.toNat_natCast, List.getD_eq_getElem?_getD, List.getElem?_eq_getElem hc1]; rfl
      unfold Sc.rest
      rw [if_pos HE.out, hre]
    rw [hwt]
    exact HNX.out
end Go.Proofs.Ytcfkmhmgappckaa
