/- Sets of numbers as bits: a set has what the document's has; BitsPlays: the walk. Condition: the library's table is as its initialiser lays it. -/
import Derived.Test.YtfoheajcahiceaaDoorList
namespace Go.Proofs.YtfoheajcahiceaaDoor
open Go.RowKit Go.Shelf Go.Proofs.YtfoheajcahiceaaDoor.PAll Go.Proofs.YtfoheajcahiceaaDoorW.PrintWords Go.Proofs.YtfoheajcahiceaaDoorW.PrintLast Go.Proofs.YtfoheajcahiceaaDoorW.PrintMore

set_option maxHeartbeats 2000000 in
set_option maxRecDepth 100000 in
theorem like_any (base g : Nat) (v : Value) (r : List Bool) (A : Option Addr) (c : Nat) (w : World) (hS : IsSet w base g v r) (hT : Tab w) (hl : r.length ≤ 100000) (hC : Kd.C Kd.bool w A r.length r) (hc : r.length ≤ c) :
    Calls Tryd.prog 20 #[.pointer (some ⟨g, 0, none⟩), .slice A r.length c] w fun e w' => e = .returned (.bool true) ∧ Below w.heap.size w w' := by
  obtain ⟨k1, hk1⟩ := ref_list r hl
  obtain ⟨k2, hk2⟩ := ref_same (insN r r.length) (by rw [insN_len]; exact Nat.le_trans (cnt_le r _) (by omega))
  have HN := Lib.hid (insN_len r r.length)
  have H1 := Lib.hid hk1
  have H2 := Lib.hid hk2
  clear hk1 hk2
  go_enter Tryd.func20, Tryd.ntmps20
  go_wp2_with fail
  refine (concordanceref03_List.calls k1 A c r _ w hC hc H1.out).mono ?_
  rintro e w1 ⟨vl, rfl, hRl, hb1⟩
  obtain ⟨Al, cl, rfl, hcl, hCl⟩ := Kd.R_reads hRl
  have hS1 := hS.below hb1
  have hT1 := hT.below hb1
  clear hRl
  go_wp2_with fail
  refine (size_any base g v r w1 hS1).mono ?_
  rintro e w2 ⟨rfl, hb2⟩
  have hS2 := hS1.below hb2
  have hT2 := hT1.below hb2
  have hC2 := Kd.C_below hCl hb2
  have hB2 := hb1.trans (hb2.mono hb1.size)
  clear hS1 hT1 hCl
  go_wp2_with fail
  refine (count_any base g v r w2 hS2 hl).mono ?_
  rintro e w3 ⟨rfl, hb3⟩
  have hS3 := hS2.below hb3
  have hT3 := hT2.below hb3
  have hC3 := Kd.C_below hC2 hb3
  have hB3 := hB2.trans (hb3.mono hB2.size)
  clear hS2 hT2 hC2
  rw [← HN.out]
  have hee : (((insN r r.length).length : Int) == ((insN r r.length).length : Int)) = true := by simp
  go_wp2_with fail
  refine (list_any base g v r hl w3 hS3 hT3).mono ?_
  rintro e w4 ⟨u, rfl, hR4, hb4⟩
  obtain ⟨A4, c4, rfl, hc4, hCC⟩ := Kd.R_reads hR4
  have hC4 := Kd.C_below hC3 hb4
  have hB4 := hB3.trans (hb4.mono hB3.size)
  clear hS3 hT3 hC3 hR4
  go_wp2_with fail
  refine (concordanceref01_Same.calls k2 A4 c4 (insN r r.length) Al cl (insN r r.length) _ w4 hCC hc4 hC4 hcl H2.out).mono ?_
  rintro e w5 ⟨rfl, hd5⟩
  have hb5 := below_drawn hd5
  go_wp2_with fail
  go_ret
  exact ⟨rfl, hB4.trans (hb5.mono hB4.size)⟩

set_option maxHeartbeats 2000000 in
set_option maxRecDepth 100000 in
theorem bitsPlays_walk (n : Int) (A : Option Addr) (nl c : Nat) (l : Nat → Int × Int) (w : World) (hT : Tab w) (hD : Deeds w A nl l) :
    Calls Tryd.prog 5 #[.int .i64 n, .slice A nl c] w fun e w' => e = .returned (.bool true) ∧ Below w.heap.size w w' := by
  go_enter Tryd.func5, Tryd.ntmps5
  go_wp2_with fail
  refine (size_law n w).mono ?_
  rintro e w0 ⟨m, rfl, hm, -, hb0⟩
  go_wp2_with fail
  refine (made_any m A nl c l w0 (hT.below hb0) (by omega) (hD.below hb0)).mono ?_
  rintro e w1 ⟨g, v, vr, r, rfl, hS, hR, hlr, hb1⟩
  have hl : r.length ≤ 100000 := by omega
  obtain ⟨AR, cR, rfl, hcR, hCR⟩ := Kd.R_reads hR
  have hT1 := (hT.below hb0).below hb1
  have hB1 := hb0.trans (hb1.mono hb0.size)
  clear hlr hm hT hD hR hb1
  go_wp2_with fail
  refine (like_any _ g v r AR cR w1 hS hT1 hl hCR hcR).mono ?_
  rintro e w2 ⟨rfl, hb2⟩
  have hT2 := hT1.below hb2
  have hB2 := hB1.trans (hb2.mono hB1.size)
  go_wp2_with fail
  refine (lives_any w2 hT2).mono ?_
  rintro e w3 ⟨rfl, hb3⟩
  go_wp2_with fail
  go_ret
  exact ⟨rfl, hB2.trans (hb3.mono hB2.size)⟩
end Go.Proofs.YtfoheajcahiceaaDoor
