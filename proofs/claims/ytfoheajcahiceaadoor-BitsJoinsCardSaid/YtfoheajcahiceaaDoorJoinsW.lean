/- BitsJoins: the walk. Condition: the library's table is as its initialiser lays it. -/
import Derived.Test.YtfoheajcahiceaaDoorJoinR
namespace Go.Proofs.YtfoheajcahiceaaDoor
open Go.RowKit Go.Shelf Go.Proofs.YtfoheajcahiceaaDoor.PAll Go.Proofs.YtfoheajcahiceaaDoorW.PrintWords Go.Proofs.YtfoheajcahiceaaDoorW.PrintLast Go.Proofs.YtfoheajcahiceaaDoorW.PrintMore

/-- What Or and Not make, And makes of Nots. -/
theorem morgan (a c : List Bool) (h : a.length = c.length) : joinB (notB a) (notB c) false = notB (joinB a c true) := by
  apply List.ext_getElem?
  intro k
  by_cases hk : k < a.length
  · have h1 : bit (joinB (notB a) (notB c) false) k = bit (notB (joinB a c true)) k := by
      rw [bit_join, bit_not, bit_not, bit_not, bit_join, joinB_len, decide_eq_true hk, decide_eq_true (show k < c.length by omega), decide_eq_true (show k < max a.length c.length by omega)]
      cases bit a k <;> cases bit c k <;> rfl
    unfold bit at h1
    rw [List.getD_eq_getElem?_getD, List.getD_eq_getElem?_getD] at h1
    have l1 : k < (joinB (notB a) (notB c) false).length := by rw [joinB_len, notB_len, notB_len]; omega
    have l2 : k < (notB (joinB a c true)).length := by rw [notB_len, joinB_len]; omega
    rw [List.getElem?_eq_getElem l1, List.getElem?_eq_getElem l2] at h1 ⊢
    exact congrArg some h1
  · rw [List.getElem?_eq_none (by rw [joinB_len, notB_len, notB_len]; omega), List.getElem?_eq_none (by rw [notB_len, joinB_len]; omega)]

/-- A set, and the document's list: both read as they must, in every later world. -/
structure Has2 (w : World) (g : Nat) (v : Value) (r : List Bool) (A : Option Addr) (c : Nat) : Prop where
  set : IsSet w 0 g v r
  list : Kd.C Kd.bool w A r.length r
  cap : r.length ≤ c
theorem Has2.below {w w1 : World} {g : Nat} {v : Value} {r : List Bool} {A : Option Addr} {c : Nat} (h : Has2 w g v r A c) (hb : Below w.heap.size w w1) : Has2 w1 g v r A c := ⟨h.set.below hb, Kd.C_below h.list hb, h.cap⟩

set_option maxHeartbeats 1000000 in
set_option maxRecDepth 100000 in
theorem bitsJoins_walk (n : Int) (A : Option Addr) (nl c : Nat) (l : Nat → Int × Int) (m : Int) (B : Option Addr) (nm d : Nat) (k : Nat → Int × Int) (w : World) (hT : Tab w) (hD : Deeds w A nl l) (hE : Deeds w B nm k) :
    Calls Tryd.prog 8 #[.int .i64 n, .slice A nl c, .int .i64 m, .slice B nm d] w fun e w' => e = .returned (.bool true) ∧ Below w.heap.size w w' := by
  go_enter Tryd.func8, Tryd.ntmps8
  go_wp2_with fail
  refine (size_law n w).mono ?_
  rintro e w0 ⟨n1, rfl, hn1, hsz0, hb0⟩
  have hsz := Lib.hid hsz0
  clear hsz0
  go_wp2_with fail
  refine (made_any n1 A nl c l w0 (hT.below hb0) (by omega) (hD.below hb0)).mono ?_
  rintro e w1 ⟨ga, va, vr, ra, rfl, hSa, hRa, hla, hb1⟩
  have hB1 := hb0.trans (hb1.mono hb0.size)
  have hT1 := (hT.below hb0).below hb1
  have hl1 : ra.length ≤ 1000 := by omega
  obtain ⟨Aa, ca, rfl, hca, hCa⟩ := Kd.R_reads hRa
  have h2a : Has2 w1 ga va ra Aa ca := ⟨hSa.lower (Nat.zero_le _), hCa, hca⟩
  have HE := Lib.hid hE
  have HN := Lib.hid (And.intro hsz.out hla)
  have HL1 := Lib.hid (And.intro hl1 hn1)
  have HT := Lib.hid hT
  clear hSa hRa hca hCa hb0 hb1 hsz hla hl1 hn1 hD hE hT
  go_wp2_with fail
  refine (size_law m w1).mono ?_
  rintro e w2 ⟨m1, rfl, hm1, -, hb2⟩
  have hB2 := hB1.trans (hb2.mono hB1.size)
  go_wp2_with fail
  refine (made_any m1 B nm d k w2 (HT.out.below hB2) (by omega) (HE.out.below hB2)).mono ?_
  rintro e w3 ⟨gb, vb, vr, rb, rfl, hSb, hRb, hlb, hb3⟩
  have hB3 := hB2.trans (hb3.mono hB2.size)
  have hl2 : rb.length ≤ 1000 := by omega
  obtain ⟨Ab, cb, rfl, hcb, hCb⟩ := Kd.R_reads hRb
  have h2b : Has2 w3 gb vb rb Ab cb := ⟨hSb.lower (Nat.zero_le _), hCb, hcb⟩
  have h2a3 := (h2a.below hb2).below hb3
  have HL2 := Lib.hid hl2
  clear hSb hRb hcb hCb hb2 hb3 hlb hl2 hm1 h2a hT1 hB1 hB2
  go_wp2_with fail
  -- And
  refine (and_any _ ga _ gb va vb ra rb w3 h2a3.set h2b.set HL1.out.1 HL2.out).mono ?_
  rintro e w4 ⟨g4, v4, rfl, hS, hb4⟩
  have k4a := h2a3.below hb4
  have k4b := h2b.below hb4
  have hB4 := hB3.trans (hb4.mono hB3.size)
  have HJ := Lib.hid (show (joinB ra rb false).length ≤ 1000 by rw [joinB_len]; have := HL1.out.1; have := HL2.out; omega)
  clear hb4 hB3 h2a3 h2b
  go_wp2_with fail
  refine (ref_join Aa Ab ra rb ca cb false w4 k4a.list k4b.list k4a.cap k4b.cap (by have := HL1.out.1; omega) (by have := HL2.out; omega)).mono ?_
  rintro e w5 ⟨v5, rfl, hR, hb5⟩
  have k5a := k4a.below hb5
  have k5b := k4b.below hb5
  have hB5 := hB4.trans (hb5.mono hB4.size)
  obtain ⟨AA, cc, rfl, hc, hC⟩ := Kd.R_reads hR
  have hS2 := hS.below hb5
  clear hS hR
  clear hb5 hB4 k4a k4b
  go_wp2_with fail
  refine (like_any _ g4 v4 _ AA cc w5 hS2 (HT.out.below hB5) (by have := HJ.out; omega) hC hc).mono ?_
  rintro e w6 ⟨rfl, hb6⟩
  have k6a := k5a.below hb6
  have k6b := k5b.below hb6
  have hB6 := hB5.trans (hb6.mono hB5.size)
  clear HJ hS2 hC hc
  clear hb6 hB5 k5a k5b
  go_wp2_with fail
  refine (or_any _ ga _ gb va vb ra rb w6 k6a.set k6b.set HL1.out.1 HL2.out).mono ?_
  rintro e w7 ⟨g7, v7, rfl, hS, hb7⟩
  have k7a := k6a.below hb7
  have k7b := k6b.below hb7
  have hB7 := hB6.trans (hb7.mono hB6.size)
  have HJ := Lib.hid (show (joinB ra rb true).length ≤ 1000 by rw [joinB_len]; have := HL1.out.1; have := HL2.out; omega)
  clear hb7 hB6 k6a k6b
  go_wp2_with fail
  refine (ref_join Aa Ab ra rb ca cb true w7 k7a.list k7b.list k7a.cap k7b.cap (by have := HL1.out.1; omega) (by have := HL2.out; omega)).mono ?_
  rintro e w8 ⟨v8, rfl, hR, hb8⟩
  have k8a := k7a.below hb8
  have k8b := k7b.below hb8
  have hB8 := hB7.trans (hb8.mono hB7.size)
  obtain ⟨AA, cc, rfl, hc, hC⟩ := Kd.R_reads hR
  have hS2 := hS.below hb8
  clear hS hR
  clear hb8 hB7 k7a k7b
  go_wp2_with fail
  refine (like_any _ g7 v7 _ AA cc w8 hS2 (HT.out.below hB8) (by have := HJ.out; omega) hC hc).mono ?_
  rintro e w9 ⟨rfl, hb9⟩
  have k9a := k8a.below hb9
  have k9b := k8b.below hb9
  have hB9 := hB8.trans (hb9.mono hB8.size)
  clear HJ hS2 hC hc
  clear hb9 hB8 k8a k8b
  go_wp2_with fail
  refine (not_any _ ga va ra w9 k9a.set HL1.out.1).mono ?_
  rintro e w10 ⟨gn, vn, rfl, hS, hb10⟩
  have k10a := k9a.below hb10
  have k10b := k9b.below hb10
  have hB10 := hB9.trans (hb10.mono hB9.size)
  obtain ⟨kn, hkn⟩ := ref_not ra (by have := HL1.out.1; omega)
  have HKN := Lib.hid hkn
  clear hkn
  clear hb10 hB9 k9a k9b
  go_wp2_with fail
  refine (concordanceref03_Not.calls kn Aa ca ra _ w10 k10a.list k10a.cap HKN.out).mono ?_
  rintro e w11 ⟨vN, rfl, hR, hb11⟩
  have k11a := k10a.below hb11
  have k11b := k10b.below hb11
  have hB11 := hB10.trans (hb11.mono hB10.size)
  obtain ⟨AN, cN, rfl, hc, hC⟩ := Kd.R_reads hR
  have hS2 := hS.below hb11
  clear hS hR HKN
  clear hb11 hB10 k10a k10b
  go_wp2_with fail
  refine (like_any _ gn vn _ AN cN w11 hS2 (HT.out.below hB11) (by rw [notB_len]; have := HL1.out.1; omega) hC hc).mono ?_
  rintro e w12 ⟨rfl, hb12⟩
  have k12a := k11a.below hb12
  have k12b := k11b.below hb12
  have hB12 := hB11.trans (hb12.mono hB11.size)
  clear hS2 hC hc
  clear hb12 hB11 k11a k11b
  go_wp2_with fail
  refine (size_law n w12).mono ?_
  rintro e w13 ⟨n2, rfl, hn2, hsz2, hb13⟩
  have k13a := k12a.below hb13
  have k13b := k12b.below hb13
  have hB13 := hB12.trans (hb13.mono hB12.size)
  obtain rfl : n1 = n2 := HN.out.1.trans hsz2.symm
  clear hsz2 hn2
  clear hb13 hB12 k12a k12b
  go_wp2_with fail
  refine (made_any n1 B nm d k w13 (HT.out.below hB13) (by have := HL1.out.2; omega) (HE.out.below hB13)).mono ?_
  rintro e w14 ⟨gc, vc, vrc, rc, rfl, hSc, hRc, hlc, hb14⟩
  have k14a := k13a.below hb14
  have k14b := k13b.below hb14
  have hB14 := hB13.trans (hb14.mono hB13.size)
  obtain ⟨Ac, cc, rfl, hcc, hCc⟩ := Kd.R_reads hRc
  have hlq : ra.length = rc.length := HN.out.2.trans hlc.symm
  have HLQ := Lib.hid hlq
  have kc : Has2 w14 gc vc rc Ac cc := ⟨hSc.lower (Nat.zero_le _), hCc, hcc⟩
  clear hSc hRc hlc hcc hCc hlq
  clear hb14 hB13 k13a k13b
  go_wp2_with fail
  refine (or_any _ ga _ gc va vc ra rc w14 k14a.set kc.set HL1.out.1 (by have := HL1.out.1; have := HLQ.out; omega)).mono ?_
  rintro e w15 ⟨go, vo, rfl, hS, hb15⟩
  have k15a := k14a.below hb15
  have k15b := k14b.below hb15
  have k15c := kc.below hb15
  have hB15 := hB14.trans (hb15.mono hB14.size)
  clear hb15 hB14 k14a k14b kc
  go_wp2_with fail
  refine (not_any _ go vo _ w15 hS (by rw [joinB_len]; have := HL1.out.1; have := HLQ.out; omega)).mono ?_
  rintro e w16 ⟨gp, vp, rfl, hP, hb16⟩
  have k16a := k15a.below hb16
  have k16b := k15b.below hb16
  have k16c := k15c.below hb16
  have hB16 := hB15.trans (hb16.mono hB15.size)
  clear hS
  clear hb16 hB15 k15a k15b k15c
  go_wp2_with fail
  refine (not_any _ ga va ra w16 k16a.set HL1.out.1).mono ?_
  rintro e w17 ⟨gx, vx, rfl, hX, hb17⟩
  have k17a := k16a.below hb17
  have k17b := k16b.below hb17
  have k17c := k16c.below hb17
  have hB17 := hB16.trans (hb17.mono hB16.size)
  have hP2 := hP.below hb17
  clear hP
  clear hb17 hB16 k16a k16b k16c
  go_wp2_with fail
  refine (not_any _ gc vc rc w17 k17c.set (by have := HL1.out.1; have := HLQ.out; omega)).mono ?_
  rintro e w18 ⟨gy, vy, rfl, hY, hb18⟩
  have k18a := k17a.below hb18
  have k18b := k17b.below hb18
  have hB18 := hB17.trans (hb18.mono hB17.size)
  have hP3 := hP2.below hb18
  have hX2 := hX.below hb18
  clear hP2 hX
  clear hb18 hB17 k17a k17b k17c
  go_wp2_with fail
  refine (and_any _ gx _ gy vx vy _ _ w18 hX2 hY (by rw [notB_len]; exact HL1.out.1) (by rw [notB_len]; have := HL1.out.1; have := HLQ.out; omega)).mono ?_
  rintro e w19 ⟨gq, vq, rfl, hQ, hb19⟩
  have k19a := k18a.below hb19
  have k19b := k18b.below hb19
  have hB19 := hB18.trans (hb19.mono hB18.size)
  have hP4 := hP3.below hb19
  rw [morgan ra rc HLQ.out] at hQ
  clear hP3 hX2 hY
  clear hb19 hB18 k18a k18b
  go_wp2_with fail
  obtain ⟨z, hz⟩ : ∃ z, notB (joinB ra rc true) = z := ⟨_, rfl⟩
  have hzl : z.length ≤ 1000 := by rw [← hz, notB_len, joinB_len]; have := HL1.out.1; have := HLQ.out; omega
  rw [hz] at hQ hP4
  have HZ := Lib.hid hzl
  obtain ⟨k2, hk2⟩ := ref_same (insN z z.length) (by rw [insN_len]; exact Nat.le_trans (cnt_le z _) (by omega))
  have HK2 := Lib.hid hk2
  clear hz hzl hk2
  refine (list_any _ gp vp z (by have := HZ.out; omega) w19 hP4 (HT.out.below hB19)).mono ?_
  rintro e w20 ⟨u1, rfl, hR1, hb20⟩
  have k20a := k19a.below hb20
  have k20b := k19b.below hb20
  have hB20 := hB19.trans (hb20.mono hB19.size)
  have hQ2 := hQ.below hb20
  obtain ⟨A1, c1, rfl, hc1, hC1⟩ := Kd.R_reads hR1
  clear hQ hP4 hR1
  clear hb20 hB19 k19a k19b
  go_wp2_with fail
  refine (list_any _ gq vq z (by have := HZ.out; omega) w20 hQ2 (HT.out.below hB20)).mono ?_
  rintro e w21 ⟨u2, rfl, hR2, hb21⟩
  have k21a := k20a.below hb21
  have k21b := k20b.below hb21
  have hB21 := hB20.trans (hb21.mono hB20.size)
  obtain ⟨A2, c2, rfl, hc2, hC2⟩ := Kd.R_reads hR2
  have hC3 := Kd.C_below hC1 hb21
  clear hQ2 hR2 hC1
  clear hb21 hB20 k20a k20b
  go_wp2_with fail
  refine (concordanceref01_Same.calls k2 A1 c1 (insN z z.length) A2 c2 (insN z z.length) _ w21 hC3 hc1 hC2 hc2 HK2.out).mono ?_
  rintro e w22 ⟨rfl, hd⟩
  have hb22 := below_drawn hd
  clear hd hC3 hC2 hc1 hc2 HK2
  have k22a := k21a.below hb22
  have k22b := k21b.below hb22
  have hB22 := hB21.trans (hb22.mono hB21.size)
  clear hb22 hB21 k21a k21b
  go_wp2_with fail
  refine (like_any _ ga va ra Aa ca w22 k22a.set (HT.out.below hB22) (by have := HL1.out.1; omega) k22a.list k22a.cap).mono ?_
  rintro e w23 ⟨rfl, hb23⟩
  have k23b := k22b.below hb23
  have hB23 := hB22.trans (hb23.mono hB22.size)
  clear hb23 hB22 k22a k22b
  go_wp2_with fail
  refine (like_any _ gb vb rb Ab cb w23 k23b.set (HT.out.below hB23) (by have := HL2.out; omega) k23b.list k23b.cap).mono ?_
  rintro e w24 ⟨rfl, hb24⟩
  have hB24 := hB23.trans (hb24.mono hB23.size)
  clear hb24 hB23 k23b
  go_wp2_with fail
  refine (lives_any w24 (HT.out.below hB24)).mono ?_
  rintro e w25 ⟨rfl, hb25⟩
  have hB25 := hB24.trans (hb25.mono hB24.size)
  clear hb25 hB24 
  go_wp2_with fail
  go_ret
  exact ⟨rfl, hB25⟩
end Go.Proofs.YtfoheajcahiceaaDoor
