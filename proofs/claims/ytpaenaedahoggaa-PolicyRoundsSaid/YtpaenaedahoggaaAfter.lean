import Derived.Test.YtpaenaedahoggaaAfterC
/-! policy.After: the sizes behind a merge. -/
namespace Go.Proofs.Ytpaenaedahoggaa
open Go.RowKit Go.Proofs.Ytpaenaedahoggaa.PAll Go.Proofs.YtpaenaedahoggaaW.PrintWords Go.Proofs.YtpaenaedahoggaaW.PrintLast Go.Proofs.YtpaenaedahoggaaW.PrintMore

set_option maxHeartbeats 400000 in
set_option maxRecDepth 100000 in
theorem after_any (A0 : Option Addr) (c0 : Nat) (l : List Int) (a b : Int) (w : World) (hr : Kd.C (Kd.int .i64) w A0 l.length l) (hc0 : l.length ≤ c0) (hl : Fits l) :
    Calls Try.prog 16 #[.slice A0 l.length c0, .agg #[.int .i64 a, .int .i64 b]] w fun e w' => ∃ v, e = .returned v ∧ Kd.R (Kd.int .i64) 3 w' w.heap.size (fun _ => True) v (afterM l a b) ∧ Below w.heap.size w w' := by
  have hlen := hl.1
  have hlv : afterM l a b = if fromP l a = toP l a b then l else l.take (fromP l a) ++ ([wIn l a b] ++ l.drop (toP l a b)) := rfl
  have hft := from_le_to l a b
  have htl := toP_le l a b
  obtain ⟨kw, hkw⟩ := (polW_ev l (fromP l a : Int) (toP l a b : Int) hl).rounds
  have hwv : wIn l (fromP l a : Int) (toP l a b : Int) = wIn l a b := by unfold wIn; rw [to_to, from_from]
  rw [hwv] at hkw
  have hin := in_eq l a b
  generalize hF : fromP l a = F at *
  generalize hT : toP l a b = T at *
  generalize wIn l a b = W at *
  generalize afterM l a b = out at *
  go_enter Try.func16, Try.ntmps16
  go_wp2_with fail
  refine (policy_in.calls A0 c0 l a b _ _ _ (Kd.C_below hr ((Below.refl _ w).alloc (Nat.le_refl _) _)) hc0 hin).mono ?_
  rintro e w1 ⟨rfl, hb⟩
  have hT1 := (Two.new w 25 (.int .i64 a) (.int .i64 b)).below hb
  have hc1 := hT1.cell0
  have hc2 := hT1.cell1
  have hf1 := hT1.frozen0
  have hf2 := hT1.frozen1
  have hT2 := hT1.set (.int .i64 F) (.int .i64 T)
  have hb2 : Below w.heap.size w ((w1.setCell ⟨w.heap.size, 0, none⟩ (.int .i64 F)).setCell ⟨w.heap.size, 1, none⟩ (.int .i64 T)) :=
    ((((Below.refl _ w).alloc (Nat.le_refl _) _).trans (hb.mono (by simp))).setCell (p := ⟨w.heap.size, 0, none⟩) (Nat.le_refl _) _).setCell (p := ⟨w.heap.size, 1, none⟩) (Nat.le_refl _) _
  by_cases hFT : F = T
  · subst hFT
    rw [if_pos rfl] at hlv
    go_wp2_with fail
    refine (c_clone A0 l.length c0 l _ rfl (Kd.C_below hr hb2) (by omega)).mono ?_
    rintro e w3 ⟨v, rfl, hR, hb3⟩
    go_wp2_with fail
    go_ret
    exact ⟨_, rfl, by rw [hlv]; exact R_low hR hb2.size, hb2.trans (hb3.mono hb2.size)⟩
  · rw [if_neg hFT] at hlv
    have hFc : (F : Int) ≤ (c0 : Int) := by omega
    have hTl : (T : Int) ≤ (l.length : Int) := by omega
    go_wp2_with fail
    generalize (w1.setCell ⟨w.heap.size, 0, none⟩ (.int .i64 F)).setCell ⟨w.heap.size, 1, none⟩ (.int .i64 T) = w2 at *
    have hd0 := hT2.cell0
    have hd1 := hT2.cell1
    have hd0' : w2.drew.cell? ⟨w.heap.size, 0, none⟩ = some (.int .i64 F) := hd0
    have hd1' : w2.drew.cell? ⟨w.heap.size, 1, none⟩ = some (.int .i64 T) := hd1
    have hrd : Kd.C (Kd.int .i64) w2.drew A0 l.length l := Kd.C_drew (Kd.C_below hr hb2)
    clear hT1 hc1 hc2 hf1 hf2 hb
    have hdrop := Kd.C_drop hrd htl hc0
    rw [show (T * (Kd.int .i64).sz) = T from Nat.mul_one T, List.length_drop] at hdrop
    have htake := Kd.C_take hrd (m := F) (by omega)
    rw [List.length_take, Nat.min_eq_left (by omega)] at htake
    have hxl : (l.take F).length = F := by rw [List.length_take]; omega
    have hyl : (l.drop T).length = l.length - T := List.length_drop
    have hnF : F ≤ 1000000 := by omega
    have hmT : l.length - T ≤ 1000000 := by omega
    by_cases hcT : c0 = T
    all_goals first | rw [if_pos hcT] at hdrop | rw [if_neg hcT] at hdrop
    all_goals first | (have hTc := hcT.symm; clear hcT; subst hTc; have hz : l.length - T = 0 := (by omega); rw [hz] at hdrop hyl hmT) | skip
    all_goals
      go_region_held3 (fun w' => w'.cell? ⟨w.heap.size, 0, none⟩ = some (.int .i64 F) ∧ w'.cell? ⟨w.heap.size, 1, none⟩ = some (.int .i64 T)) (refine And.intro ?_ ?_ <;> first | (with_reducible assumption) | (simp only [World.cell?_alloc_some, *, Option.isSome_some]; done))
        (first | (go_at_call 13; (with_reducible refine Calls.mono (policy_Weight.calls kw _ _ l _ _ _ w2.drew hrd hc0 hkw) ?_); rintro e w3 ⟨rfl, hb3⟩; have hd2 := (hb3.cell (p := ⟨w.heap.size, 0, none⟩) hT2.lt).trans hd0; have hd3 := (hb3.cell (p := ⟨w.heap.size, 1, none⟩) hT2.lt).trans hd1) | (go_at_call 25; (with_reducible refine Calls.mono (concat3 w3 _ _ _ _ _ _ _ _ _ (Kd.C_below htake hb3) (Kd.C_below hdrop hb3) hxl hyl hnF hmT) ?_); rintro e w4 ⟨v, rfl, hR, hb4⟩; have hd4 := (hb4.cell (p := ⟨w.heap.size, 0, none⟩) (Nat.lt_of_lt_of_le hT2.lt hb3.size)).trans hd2; have hd5 := (hb4.cell (p := ⟨w.heap.size, 1, none⟩) (Nat.lt_of_lt_of_le hT2.lt hb3.size)).trans hd3))
    all_goals
      go_wp2
      go_ret
      exact ⟨_, rfl, by rw [hlv]; exact R_low hR (Nat.le_trans hb2.size hb3.size), hb2.drew.trans ((hb3.mono hb2.size).trans (hb4.mono (Nat.le_trans hb2.size hb3.size)))⟩

def policy_After.f (l0 : List Int) (a1_0 a1_1 : Int) : Option (List Int) := if Fits l0 then some (afterM l0 a1_0 a1_1) else none
theorem policy_After.calls (A0 : Option Addr) (c0 : Nat) (l0 : List Int) (a1_0 a1_1 : Int) (r : List Int) (w : World) (hr0 : Kd.C (Kd.int .i64) w A0 l0.length l0) (hc0 : l0.length ≤ c0) (h : policy_After.f l0 a1_0 a1_1 = some r) :
    Calls Try.prog 16 #[.slice A0 l0.length c0, .agg #[.int .i64 a1_0, .int .i64 a1_1]] w fun e w' => ∃ v0_, e = .returned v0_ ∧ Kd.R (Kd.int .i64) 3 w' w.heap.size (fun _ => True) v0_ r ∧ Below w.heap.size w w' := by
  unfold policy_After.f at h
  split at h
  · cases h
    exact after_any A0 c0 l0 a1_0 a1_1 w hr0 hc0 (by assumption)
  · cases h
end Go.Proofs.Ytpaenaedahoggaa
