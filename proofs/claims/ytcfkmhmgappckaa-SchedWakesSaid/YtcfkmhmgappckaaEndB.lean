/- End, walked. No condition but on size. -/
import Derived.Test.YtcfkmhmgappckaaEnd
import Derived.BigRegion
namespace Go.Proofs.Ytcfkmhmgappckaa
open Go.RowKit Go.Proofs.Ytcfkmhmgappckaa.Sc Go.Proofs.Ytcfkmhmgappckaa.PAll Go.Proofs.YtcfkmhmgappckaaW.PrintWords Go.Proofs.YtcfkmhmgappckaaW.PrintLast Go.Proofs.YtcfkmhmgappckaaW.PrintMore

set_option maxHeartbeats 1000000 in
theorem contf_mu (M : List (Int × List Int)) (vs : List (Option Nat × Value)) (bM p c : Nat) (t : Int) (w : World) (hl : M.length ≤ 1000) (hp : w.cell? ⟨p, 0, none⟩ = some (.int .i64 t))
    (hc : ∀ j, (hj : j < M.length) → w.cell? ⟨bM, j * 2, none⟩ = some (.int .i64 (M[j]).1) ∧ ∃ A n q, w.cell? ⟨bM, j * 2 + 1, none⟩ = some (.slice A n q)) :
    Calls Try.prog 38 #[.slice (some ⟨bM, 0, none⟩) M.length c, .func (.func 39) #[] #[.pointer (some ⟨p, 0, none⟩)]] w fun e w' => e = .returned (.bool (M.any (fun x => x.1 == t))) ∧ Below w.heap.size w w' := by
  have HI := Lib.hid (idx_mu M vs bM p c t w hl hp hc)
  clear hc hp
  go_enter Try.func38, Try.ntmps38
  go_wp2_with fail
  refine HI.out.mono ?_
  rintro e w' ⟨r, rfl, hr, hb⟩
  have HR := Lib.hid hr
  have HB := Lib.hid hb
  clear hr hb
  go_wp2_with fail
  go_ret
  exact ⟨by rw [← HR.out]; exact ret_bool (by simp), HB.out⟩
theorem endE_eq (S : Sd) (t : Int) : first (there S.T t) ((stT S t == 0) && !(S.M.any (fun x => x.1 == t))) = endE S t := by
  unfold endE
  have e : (fun x : Int × List Int => x.1 == t) = (fun x => decide (x.1 = t)) := by funext x; rw [Bool.eq_iff_iff]; simp
  rw [e]
  rfl
attribute [local go_sem ↓] Go.wp_at_zero Go.wp_at_succ
set_option maxHeartbeats 4000000 in
set_option maxRecDepth 100000 in
theorem end_any {w : World} {base g : Nat} {F : Nat → Prop} {S : Sd} (h : Sch w base g F S) (hb : base ≤ w.heap.size) (hT : S.T.length ≤ 1000) (hM : S.M.length ≤ 1000) (t : Int) :
    Calls Try.prog 20 #[.pointer (some ⟨g, 0, none⟩), .int .i64 t] w fun e w' => e = .returned (.int .i64 (endT S t).2) ∧ Next w base g F (endT S t).1 w' := by
  have hmf : ∀ (fn : Fn) (first cap : Array Value) (w : World), (Instr.makeFunc fn first cap).run Try.prog w = .ok (.func fn first cap) w := fun _ _ _ _ => rfl
  obtain ⟨bT, bM, bR, vs, us, hS, f1, f2, f3, f4, f5⟩ := h.2
  obtain ⟨wa, hwa⟩ : ∃ wa, wa = w.alloc (.cells #[.int .i64 t] 3 (0, 0)) := ⟨_, rfl⟩
  have hba : Below w.heap.size w wa := by rw [hwa]; exact below_alloc (Below.refl _ _) _
  have hp : wa.cell? ⟨w.heap.size, 0, none⟩ = some (.int .i64 t) := by rw [hwa]; exact cell_at_new _ _ _ 0 _ rfl
  have hlt : w.heap.size < wa.heap.size := by rw [hwa]; simp
  have hSa := hS.below hba
  have d1 := hSa.c1
  have hcf := contf_mu S.M vs bM w.heap.size S.M.length t wa hM hp (fun j hj => by
    obtain ⟨q1, v, hv, q2⟩ := hSa.cM j hj
    obtain ⟨A, n, c, e⟩ := (hSa.rows j _ v (List.getElem?_eq_getElem hj) hv).slice
    rw [Nat.mul_comm 2 j] at q1 q2
    rw [e] at q2
    exact ⟨q1, A, n, c, q2⟩)
  have HCF := Lib.hid hcf
  have HS := Lib.hid hS
  have HH := Lib.hid h
  have HBA := Lib.hid hba
  have HP := Lib.hid hp
  have HF5 := Lib.hid f5
  have HLE := Lib.hid (endE_eq S t)
  obtain ⟨hasB, hhas⟩ : ∃ b, b = S.M.any (fun x => x.1 == t) := ⟨_, rfl⟩
  rw [← hhas] at HCF HLE
  clear h hcf hS hba hp f5 hSa hhas
  go_enter Try.func20, Try.ntmps20
  go_upto_region 1 with fail
  rw [← hwa]
  clear hwa
  go_wp2_with fail
  refine HCF.out.mono ?_
  rintro e w1 ⟨rfl, hb1⟩
  have HB1 := Lib.hid (Below.trans HBA.out (hb1.mono HBA.out.size))
  have c2 : w1.cell? ⟨w.heap.size, 0, none⟩ = some (.int .i64 t) := cell_stay (Nat.le_refl _) hb1 HP.out
  have hsz : w.heap.size < w1.heap.size := Nat.lt_of_lt_of_le hlt hb1.size
  have h1 := HS.out.below HB1.out
  have d0 := h1.c0
  have hst := fun (W : World) (hb : Below w.heap.size w W) => state_sch (HH.out.below hb) hT t
  have HST := Lib.hid hst
  clear hb1 hst h1 HCF d1
  have hTn : S.T.length ≤ 1000000000000 := by omega
  obtain ⟨o, ho⟩ : ∃ o, o = Obj.cells #[Value.bool (stT S t == 0), .bool (!hasB)] 4 (0, 0) := ⟨_, rfl⟩
  have q1 : (w1.alloc (Obj.cells #[Value.bool (stT S t == 0), .bool (!hasB)] 4 (0, 0))).drew.cell? ⟨g, 0, none⟩ = some (.slice (some ⟨bT, 0, none⟩) S.T.length S.T.length) := (World.cell?_alloc_some w1 _ _ (by rw [d0]; rfl)).trans d0
  have q2 : (w1.alloc (Obj.cells #[Value.bool (stT S t == 0), .bool (!hasB)] 4 (0, 0))).drew.cell? ⟨w.heap.size, 0, none⟩ = some (.int .i64 t) := (World.cell?_alloc_some w1 _ _ (by rw [c2]; rfl)).trans c2
  have hfi := first_two (w1.alloc (Obj.cells #[Value.bool (stT S t == 0), .bool (!hasB)] 4 (0, 0))).drew w1.heap.size (inB S.T.length t) (stT S t == 0) (!hasB) (cell_at_new w1 _ _ 0 _ rfl) (cell_at_new w1 _ _ 1 _ rfl)
  have hle2 := HLE.out
  rw [← inB_there] at hle2
  rw [hle2] at hfi
  have hbq : Below w.heap.size w (w1.alloc (Obj.cells #[Value.bool (stT S t == 0), .bool (!hasB)] 4 (0, 0))).drew := (below_alloc HB1.out _).drew
  have hbd : Below w.heap.size w w1.drew := HB1.out.drew
  have HFI := Lib.hid hfi
  have HBQ := Lib.hid hbq
  have HBD := Lib.hid hbd
  have HQ1 := Lib.hid q1
  have HQ2 := Lib.hid q2
  clear hfi hbq hbd hle2 q1 q2 ho o HLE
  have hst3 : ∀ w3, Below (w1.alloc (Obj.cells #[Value.bool (stT S t == 0), .bool (!hasB)] 4 (0, 0))).drew.heap.size (w1.alloc (Obj.cells #[Value.bool (stT S t == 0), .bool (!hasB)] 4 (0, 0))).drew w3 →
      (w3.cell? ⟨g, 0, none⟩ = some (.slice (some ⟨bT, 0, none⟩) S.T.length S.T.length) ∧ w3.cell? ⟨w.heap.size, 0, none⟩ = some (.int .i64 t)) ∧ Below w.heap.size w w3 := fun w3 hb3 =>
    ⟨⟨cell_stay (Nat.le_refl _) hb3 HQ1.out, cell_stay (Nat.le_refl _) hb3 HQ2.out⟩, Below.trans HBQ.out (hb3.mono HBQ.out.size)⟩
  have HS3 := Lib.hid hst3
  clear hst3
  go_upto_region 2 with fail
  go_region_held3 (fun W => (W.cell? ⟨g, 0, none⟩ = some (.slice (some ⟨bT, 0, none⟩) S.T.length S.T.length) ∧ W.cell? ⟨w.heap.size, 0, none⟩ = some (.int .i64 t)) ∧ Below w.heap.size w W)
    (first | assumption | exact ⟨⟨d0, c2⟩, HBD.out⟩ | exact ⟨⟨HQ1.out, HQ2.out⟩, HBQ.out⟩ | go_keep)
    (first
      | (go_at_call 29; (with_reducible refine Calls.mono (in_int (some ⟨bT, 0, none⟩) S.T.length S.T.length t _ hTn) ?_); rintro e w3 ⟨rfl, rfl⟩)
      | (go_at_call 16; (with_reducible refine Calls.mono (HST.out _ (And.right (by assumption))) ?_); rintro e w3 ⟨rfl, rfl⟩)
      | (go_at_call 28; (with_reducible refine Calls.mono HFI.out ?_); rintro e w3 ⟨rfl, hb3⟩; have ht := HS3.out w3 hb3))
  all_goals
    have hA : Next w base g F S w3 := Next.of_below HH.out hb (And.right (by assumption))
    have HA := Lib.hid hA
    clear hA
    by_cases hE : endE S t = 0
    · have hx := (first_eq _ _).1 hE
      have htI := (there_iff _ _).1 hx.1
      obtain ⟨t, rfl⟩ := Int.eq_ofNat_of_zero_le htI.1
      have ht1 : t < S.T.length := by omega
      have g1 : ((t : Nat) : Int) < (S.T.length : Int) := by omega
      have hS3 := HS.out.below (And.right (show (_ ∧ Below w.heap.size w w3) by assumption))
      have d4 := hS3.cT t ht1
      have z4 : w3.frozen? ⟨bT, t, none⟩ = false := by simp [World.frozen?, hS3.T]
      obtain ⟨n1, n2, n3, n4, n5, n6⟩ := hS3.ne3
      have n7 : ¬ bT = w.heap.size := by have := (HS.out.blocks (b := bT) (by simp)).2; omega
      have d5 := hS3.c0
      have d6 : w3.cell? ⟨w.heap.size, 0, none⟩ = some (.int .i64 (t : Int)) := (And.right (And.left (show ((_ ∧ w3.cell? ⟨w.heap.size, 0, none⟩ = some (.int .i64 (t : Int))) ∧ Below w.heap.size w w3) by assumption)))
      have h4 := hS3.setT t ht1 3
      have h5 : Next w base g F (setT S t 3) (w3.setCell ⟨bT, t, none⟩ (.int .i64 3)) := HH.out.next hb h4 (HA.out.2.store _ _ f2) ⟨f1, f2, f3, f4⟩ (fun x hx k hk => .inl (HF5.out x hx k hk))
      have h6 : Next w base g F (setT S t 3) (w3.setCell ⟨bT, t, none⟩ (.int .i64 3)).drew := HH.out.next hb (h4.below ((Below.refl _ _).drew)) ((HA.out.2.store _ _ f2).below (Below.refl _ _).drew) ⟨f1, f2, f3, f4⟩ (fun x hx k hk => .inl (HF5.out x hx k hk))
      have e2 : (endT S t) = (setT S t 3, 0) := by unfold endT; rw [if_pos hE, hE]
      have HE2 := Lib.hid e2
      have H5 := Lib.hid h5
      have H6 := Lib.hid h6
      rw [hE]
      clear h4 h5 h6 hS3 hx htI hE e2 HA HST HQ1 HQ2 HS3 HFI
      go_upto_region 4 with fail
      go_region
      all_goals
        go_wp2_with fail
        go_ret
        rw [HE2.out]
        exact ⟨rfl, H6.out⟩
    · have hne : (endE S t == 0) = false := by simpa using hE
      have e2 : (endT S t) = (S, endE S t) := by unfold endT; rw [if_neg hE]
      have HE2 := Lib.hid e2
      clear e2 hE
      go_wp2_with fail
      go_ret
      rw [HE2.out]
      exact ⟨rfl, HA.out⟩
end Go.Proofs.Ytcfkmhmgappckaa
