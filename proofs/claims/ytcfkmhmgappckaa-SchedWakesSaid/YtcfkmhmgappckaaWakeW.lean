/- Wake, walked. No condition but on size. -/
import Derived.Test.YtcfkmhmgappckaaWake
namespace Go.Proofs.Ytcfkmhmgappckaa
open Go.RowKit Go.Proofs.Ytcfkmhmgappckaa.Sc Go.Proofs.Ytcfkmhmgappckaa.PAll Go.Proofs.YtcfkmhmgappckaaW.PrintWords Go.Proofs.YtcfkmhmgappckaaW.PrintLast Go.Proofs.YtcfkmhmgappckaaW.PrintMore

theorem RowIn.valW {w : World} {base t sz : Nat} {ob : Option Nat} {v : Value} {l : List (List Value)} (h : RowIn w base t sz ob v l) : ∃ A c, v = .slice A l.length c ∧ l.length ≤ c := by
  rcases h.2 with ⟨_, e, e2⟩ | ⟨b, off, cap, cs, _, e, _, _, h1, _⟩
  · subst e2; exact ⟨_, _, e, by simp⟩
  · exact ⟨_, _, e, h1⟩
theorem Sch.stateCell {w : World} {base g : Nat} {F : Nat → Prop} {S : Sd} (h : Sch w base g F S) (t : Nat) (ht : t < S.T.length) : ∃ bT, w.cell? ⟨g, 0, none⟩ = some (.slice (some ⟨bT, 0, none⟩) S.T.length S.T.length) ∧ w.cell? ⟨bT, t, none⟩ = some (.int .i64 S.T[t]) ∧ w.frozen? ⟨bT, t, none⟩ = false ∧ bT ≠ g ∧ F bT ∧
    ∀ (w' : World) (v : Int), base ≤ w.heap.size → w' = w.setCell ⟨bT, t, none⟩ (.int .i64 v) → Next w base g F (setT S t v) w' := by
  obtain ⟨bT, bM, bR, vs, us, hS, f1, f2, f3, f4, f5⟩ := h.2
  refine ⟨bT, hS.c0, hS.cT t ht, by simp [World.frozen?, hS.T], hS.ne3.1, f2, fun w' v hb e => ?_⟩
  rw [e]
  exact h.next hb (hS.setT t ht v) ((Moves.refl F w).store _ _ f2) ⟨f1, f2, f3, f4⟩ (fun x hx k hk => .inl (f5 x hx k hk))
/-- What holds in each round. -/
structure WakeSt (w1 wr : World) (base g : Nat) (F2 : Nat → Prop) (S1 : Sd) (L : List (Int × Int)) (ob : Option Nat) (u0 : Value) (i : Nat) : Prop where
  N : Next w1 base g F2 ((L.take i).foldl wakeOne S1) wr
  ok : Ok ((L.take i).foldl wakeOne S1) ((L.drop i).map (·.1))
  mid : ∀ x ∈ L, x.2 = -1 ∨ there ((L.take i).foldl wakeOne S1).M x.2 = true
  R : RowIn wr base 67 2 ob u0 (pairs L)
  len : ((L.take i).foldl wakeOne S1).T.length ≤ 1000
theorem WakeSt.step {w1 wr w3 : World} {base g : Nat} {F2 : Nat → Prop} {S1 : Sd} {L : List (Int × Int)} {ob : Option Nat} {u0 : Value} {i : Nat} (h : WakeSt w1 wr base g F2 S1 L ob u0 i) (hi : i < L.length) (hob : ∀ b, ob = some b → ¬ F2 b ∧ b < w1.heap.size)
    (hN : Next wr base g (Plus F2 w1 wr) (wakeOne ((L.take i).foldl wakeOne S1) L[i]) w3) : WakeSt w1 w3 base g F2 S1 L ob u0 (i + 1) := by
  have e : (L.take (i + 1)).foldl wakeOne S1 = wakeOne ((L.take i).foldl wakeOne S1) L[i] := by rw [List.take_succ_eq_append_getElem hi, List.foldl_append]; rfl
  have hok := h.ok
  rw [List.drop_eq_getElem_cons hi, List.map_cons] at hok
  refine ⟨by rw [e]; exact h.N.trans hN, by rw [e]; exact hok.wakeOne (h.mid _ (List.getElem_mem hi)), fun x hx => ?_, h.R.same (fun b hb => ?_), ?_⟩
  · rw [e, there_size (size_wakeOne _ _)]; exact h.mid x hx
  · exact hN.2.block b (h.R.lt b hb).2 (fun q => q.elim (hob b hb).1 (fun q => by have := (hob b hb).2; omega))
  · rw [e]; have := (size_wakeOne ((L.take i).foldl wakeOne S1) L[i]).1; have := h.len; omega
attribute [local go_sem ↓] Go.wp_at_zero Go.wp_at_succ
set_option maxHeartbeats 4000000 in
set_option maxRecDepth 100000 in
theorem wake_yes {w : World} {base g : Nat} {F : Nat → Prop} {S : Sd} (h : Sch w base g F S) (hb : base ≤ w.heap.size) (hk : Ok S []) (hT : S.T.length ≤ 1000) (lR : S.R.length ≤ 1000) (c : Nat) (hc : c < S.R.length) :
    Calls Try.prog 17 #[.pointer (some ⟨g, 0, none⟩), .int .i64 (c : Int)] w fun e w' => e = .returned (.tuple #[.int .i64 ((S.R[c]).length : Int), .int .i64 0]) ∧ Next w base g F ((S.R[c]).foldl wakeOne (setR S c [])) w' := by
  obtain ⟨bR, ob, u0, d2, d3, z3, n1, hR, hS1, fR, nR⟩ := h.taken c hc
  have hcT : there S.R (c : Int) = true := (there_iff _ _).2 ⟨by omega, by omega⟩
  have hre : S.R.getD (c : Int).toNat [] = S.R[c] := by rw [Int.toNat_natCast, List.getD_eq_getElem?_getD, List.getElem?_eq_getElem hc]; rfl
  have hok := hk.taken (c : Int) hcT
  have hmid := hk.midAt (c : Int) hcT
  rw [hre] at hok hmid
  have hLl : (S.R[c]).length ≤ 1000 := Nat.le_trans (hk.restFew _ (List.getElem_mem _)) hT
  obtain ⟨L, hL⟩ : ∃ L, L = S.R[c] := ⟨_, rfl⟩
  rw [← hL] at hok hmid hLl hR ⊢
  have hv := hR.valW
  obtain ⟨A, cap, hv, hcap⟩ := hv
  have hpl : (pairs L).length = L.length := by simp [pairs]
  rw [hpl] at hv
  subst hv
  obtain ⟨w1, hw1⟩ : ∃ w1, w1 = w.setCell ⟨bR, c, none⟩ (.slice none 0 0) := ⟨_, rfl⟩
  rw [← hw1] at hS1
  have hM1 : Moves F w w1 := by rw [hw1]; exact (Moves.refl F w).store _ _ fR
  have hsz1 : w1.heap.size = w.heap.size := by rw [hw1]; simp [World.setCell]
  have hst : WakeSt w1 w1 base g (fun k => F k ∧ some k ≠ ob) (setR S c []) L ob (.slice A L.length cap) 0 :=
    ⟨Next.of_below hS1 (by omega) (Below.refl _ _), by simpa using hok, hmid, hR.same (fun b hb2 => by rw [hw1]; exact Below.heap_setCell w ⟨bR, c, none⟩ _ b (fun e => nR (by rw [hb2, e]))), hT⟩
  have hobN : ∀ b, ob = some b → ¬ (F b ∧ some b ≠ ob) ∧ b < w1.heap.size := fun b hb2 => ⟨fun q => q.2 hb2.symm, by rw [hsz1]; exact (hR.lt b hb2).2⟩
  have g1 : ((c : Nat) : Int) < (S.R.length : Int) := by omega
  have HST := Lib.hid hst
  have HON := Lib.hid hobN
  have HM1 := Lib.hid hM1
  have HF0 := Lib.hid h.1
  have hb1 : base ≤ w1.heap.size := by omega
  clear hst hobN hM1 hR hok hmid hre hpl hcap h hk hS1 hL hsz1
  go_enter Try.func17, Try.ntmps17
  go_wp2_with fail
  refine (in_rests _ _ _ _ _ (by omega)).mono ?_
  rintro e w' ⟨rfl, hw'⟩
  rw [hw']
  clear hw' w'
  rw [inB_there, hcT]
  go_upto_region 5 with fail
  rw [← hw1]
  clear hw1
  go_wp2_with fail
  go_loopw [31] (fun v wr => ∃ i : Nat, v = .int .i64 (i : Int) ∧ i ≤ L.length ∧ WakeSt w1 wr base g (fun k => F k ∧ some k ≠ ob) (setR S c []) L ob (.slice A L.length cap) i) (fun v _ => L.length - (intOf v).toNat)
  case atStart => exact ⟨0, rfl, by omega, HST.out⟩
  case round =>
    clear HST d2 d3 z3
    obtain ⟨i, rfl, hi, hs⟩ := hrel
    by_cases hlt : i < L.length
    · have g2 : ((i : Nat) : Int) < (L.length : Int) := by omega
      rcases hs.R.pairAt with ⟨_, e⟩ | ⟨b, o, cp, hobb, hv, hcell⟩
      · rw [e] at hlt; simp at hlt
      obtain rfl : A = some ⟨b, o, none⟩ := (Value.slice.inj hv).1
      obtain rfl : cap = cp := (Value.slice.inj hv).2.2
      obtain ⟨k1, k2⟩ := hcell i hlt
      clear hcell hv
      have hsz := hs.N.2.size
      have hbr : base ≤ wr.heap.size := by omega
      obtain ⟨t, mm, hx⟩ : ∃ t mm, L[i] = (t, mm) := ⟨_, _, rfl⟩
      rw [hx] at k1 k2
      obtain ⟨S2, hS2⟩ : ∃ S2, S2 = (L.take i).foldl wakeOne (setR S c []) := ⟨_, rfl⟩
      have hok2 := hs.ok
      have hmid2 := hs.mid _ (List.getElem_mem hlt)
      have hlen2 := hs.len
      rw [← hS2] at hok2 hmid2 hlen2
      rw [List.drop_eq_getElem_cons hlt, List.map_cons, hx] at hok2
      rw [hx] at hmid2
      have htt : there S2.T t = true := stT_there S2 t (by
        have := hok2.rest t
        rw [List.count_cons_self] at this
        by_cases e : stT S2 t = 2
        · omega
        · rw [if_neg e] at this; omega)
      have hNx := hs.N
      rw [← hS2] at hNx
      obtain ⟨t, rfl⟩ := Int.eq_ofNat_of_zero_le ((there_iff _ _).1 htt).1
      have ht2 : t < S2.T.length := by have := ((there_iff _ _).1 htt).2; omega
      -- the round's own variable
      have hba : Below wr.heap.size wr (wr.alloc (Obj.cells #[Value.int .i64 (t : Int), .int .i64 mm] 67 (0, 0))) := below_alloc (Below.refl _ _) _
      have hSa := hNx.1.below hba
      have p0 : (wr.alloc (Obj.cells #[Value.int .i64 (t : Int), .int .i64 mm] 67 (0, 0))).cell? ⟨wr.heap.size, 0, none⟩ = some (.int .i64 (t : Int)) := cell_at_new _ _ _ 0 _ rfl
      have p1 : (wr.alloc (Obj.cells #[Value.int .i64 (t : Int), .int .i64 mm] 67 (0, 0))).cell? ⟨wr.heap.size, 1, none⟩ = some (.int .i64 mm) := cell_at_new _ _ _ 1 _ rfl
      have hHS := Lib.hid hs
      by_cases hm1 : mm = -1
      · subst hm1
        obtain ⟨bT, e0, e1, e2, n2, fT, hset⟩ := hSa.stateCell t ht2
        have hbsz : base ≤ (wr.alloc (Obj.cells #[Value.int .i64 (t : Int), .int .i64 (-1)] 67 (0, 0))).heap.size := Nat.le_trans hbr hba.size
        have n3 : ¬ bT = wr.heap.size := fun e => by
          have := (hNx.1.1 bT fT).2; omega
        have hfin := hset _ 0 hbsz rfl
        have hfin2 := Next.pre hba hNx.1.1 hbr hfin
        have hdr : Next wr base g (Plus (fun k => F k ∧ some k ≠ ob) w1 wr) (setT S2 t 0) (((wr.alloc (Obj.cells #[Value.int .i64 (t : Int), .int .i64 (-1)] 67 (0, 0))).setCell ⟨bT, t, none⟩ (.int .i64 0)).drew) :=
          hfin2.trans (Next.of_below hfin2.1 (Nat.le_trans hbr hfin2.2.size) (Below.refl _ _).drew)
        have hwk : wakeOne S2 ((t : Int), (-1 : Int)) = setT S2 t 0 := by unfold wakeOne; rw [if_pos rfl]
        have hstep : WakeSt w1 (((wr.alloc (Obj.cells #[Value.int .i64 (t : Int), .int .i64 (-1)] 67 (0, 0))).setCell ⟨bT, t, none⟩ (.int .i64 0)).drew) base g (fun k => F k ∧ some k ≠ ob) (setR S c []) L ob (.slice (some ⟨b, o, none⟩) L.length cap) (i + 1) :=
          hs.step hlt HON.out (by rw [hx, ← hS2, hwk]; exact hdr)
        have HSTEP := Lib.hid hstep
        have g4 : ((t : Nat) : Int) < (S2.T.length : Int) := by omega
        clear hstep hdr hfin hfin2 hset hSa hs hok2 hmid2 hNx hwk hx hS2
        go_upto_region 9 with fail
        go_region
        all_goals
          go_wp2_with fail
          go_roundw
          case rel => exact ⟨i + 1, by go_num, by omega, HSTEP.out⟩
          case measure => simp [intOf]; omega
      · have hmb : (mm == -1) = false := by simpa using hm1
        have hco := come_any hSa (Nat.le_trans hbr hba.size) (t : Int) mm htt (hmid2.resolve_left hm1) (Nat.le_trans (hok2.rowFew _ (mu_mem S2 mm (hmid2.resolve_left hm1))) hlen2)
        have hwk : wakeOne S2 ((t : Int), mm) = (come S2 t mm).1 := by unfold wakeOne; rw [if_neg hm1]
        have hstep : ∀ w3, Next (wr.alloc (Obj.cells #[Value.int .i64 (t : Int), .int .i64 mm] 67 (0, 0))) base g (Plus (fun k => F k ∧ some k ≠ ob) w1 wr) (come S2 t mm).1 w3 → WakeSt w1 w3 base g (fun k => F k ∧ some k ≠ ob) (setR S c []) L ob (.slice (some ⟨b, o, none⟩) L.length cap) (i + 1) := fun w3 hN =>
          hs.step hlt HON.out (by rw [hx, ← hS2, hwk]; exact Next.pre hba hNx.1.1 hbr hN)
        have HSTEP := Lib.hid hstep
        have HCO := Lib.hid hco
        clear hstep hco hSa hs hok2 hmid2 hNx hwk hx hS2
        go_wp2_with fail
        refine HCO.out.mono ?_
        rintro e w3 ⟨rfl, hN3⟩
        have H3 := Lib.hid (HSTEP.out w3 hN3)
        clear hN3
        go_wp2_with fail
        go_roundw
        case rel => exact ⟨i + 1, by go_num, by omega, H3.out⟩
        case measure => simp [intOf]; omega
    · obtain rfl : i = L.length := by omega
      have hn := hs.N
      rw [List.take_length] at hn
      have hfin : Next w base g F (L.foldl wakeOne (setR S c [])) wr := Next.wider HM1.out HF0.out hb (fun k q => q.1) hn
      have HN := Lib.hid hfin
      clear hfin hn hs
      go_wp2_with fail
      go_ret2
      exact ⟨rfl, HN.out⟩
theorem wake_any {w : World} {base g : Nat} {F : Nat → Prop} {S : Sd} (h : Sch w base g F S) (hb : base ≤ w.heap.size) (hk : Ok S []) (hT : S.T.length ≤ 1000) (lR : S.R.length ≤ 1000) (c : Int) :
    Calls Try.prog 17 #[.pointer (some ⟨g, 0, none⟩), .int .i64 c] w fun e w' => e = .returned (.tuple #[.int .i64 (wake S c).2.1, .int .i64 (wake S c).2.2]) ∧ Next w base g F (wake S c).1 w' := by
  by_cases hc : there S.R c = true
  · obtain ⟨c, rfl⟩ := Int.eq_ofNat_of_zero_le ((there_iff _ _).1 hc).1
    have hc1 : c < S.R.length := by have := ((there_iff _ _).1 hc).2; omega
    have hre : S.R.getD (c : Int).toNat [] = S.R[c] := by rw [Int.toNat_natCast, List.getD_eq_getElem?_getD, List.getElem?_eq_getElem hc1]; rfl
    have e : wake S (c : Int) = ((S.R[c]).foldl wakeOne (setR S c []), ((S.R[c]).length : Int), 0) := by unfold wake; rw [if_pos hc, hre]
    rw [e]
    exact wake_yes h hb hk hT lR c hc1
  · have hc2 : there S.R c = false := by simpa using hc
    have e : wake S c = (S, 0, 1) := by unfold wake; rw [if_neg hc]
    rw [e]
    obtain ⟨bT, bM, bR, d0, d1, d2⟩ := h.cells
    have HN := Lib.hid (Next.of_below h hb (Below.refl _ _))
    clear h e hc
    go_enter Try.func17, Try.ntmps17
    go_wp2_with fail
    refine (in_rests _ _ _ _ _ (by omega)).mono ?_
    rintro e w' ⟨rfl, rfl⟩
    rw [inB_there, hc2]
    go_wp2_with fail
    go_ret2
    exact ⟨rfl, HN.out⟩
end Go.Proofs.Ytcfkmhmgappckaa
