/- doc.May, walked. Condition: few bytes. -/
import Derived.Test.YtbbfilmajiilhaaDoorMayP
import Derived.Test.YtbbfilmajiilhaaDoorContains
set_option linter.unusedVariables false
set_option linter.unusedSimpArgs false
namespace Go.Proofs.YtbbfilmajiilhaaDoor
open Go.RowKit Go.Shelf Go.Proofs.YtbbfilmajiilhaaDoor.PAll Go.Proofs.YtbbfilmajiilhaaDoorW.PrintWords Go.Proofs.YtbbfilmajiilhaaDoorW.PrintLast Go.Proofs.YtbbfilmajiilhaaDoorW.PrintMore

theorem tokens_any (s : ByteArray) (hs : s.size ≤ 1000000) (W : World) :
    Calls Tryd.prog 17 #[.string s] W fun e W' => ∃ (A : Option Addr) (n c : Nat), e = .returned (.tuple #[.slice A n c, .int .i64 (tokE (wordsT s) 0)]) ∧ (tokE (wordsT s) 0 = 0 → n = (wordsT s).length) ∧ Below W.heap.size W W' := by
  obtain ⟨r, h1, h2⟩ := wtok_ev s (by omega)
  obtain ⟨k, hk⟩ := h1.rounds
  refine (word_Tokens.calls k s r _ W hk).mono ?_
  rintro e W' ⟨v, rfl, hR, hb⟩
  obtain ⟨A, c, rfl⟩ := Kd.R_slice hR
  exact ⟨A, r.length, c, rfl, h2, hb⟩

set_option maxHeartbeats 4000000 in
set_option maxRecDepth 100000 in
theorem may_any (id : Int) (A : Option Addr) (c : Nat) (l : List S24) (w : World) (hC : Kd.C k24 w A l.length l) (hc : l.length ≤ c) (hl : docOk l) (hs : ∀ f ∈ l, f.f0.size ≤ 9223372036854775807) :
    Calls Tryd.prog 6 #[.agg #[.int .i64 id, .slice A l.length c]] w fun e w' => e = .returned (.int .i64 (mayN l)) ∧ Below w.heap.size w w' := by
  have hmf := fun (w : World) (fn : Fn) (a : Value) => (rfl : (Instr.makeFunc fn #[] #[a]).run Tryd.prog w = _)
  have HMF := Lib.hid hmf
  have HCUT := Lib.hid (fun (i : Nat) (hi : i ≤ l.length) (W : World) => show (Instr.slice 25 (.slice A l.length c) none (some (.int .i64 (i : Int))) none).run Tryd.prog W = .ok (.slice A i c) W from by
    obtain ⟨i0, hi0, _, _, _⟩ := info_parts info24
    have h := cut_to (P := Tryd.prog) 25 24 .i64 Tryd.underlying25 hi0 A l.length c (i : Int) (by omega) (by omega) hc W
    rwa [Int.toNat_natCast] at h)
  have HC := Lib.hid hC
  have HL := Lib.hid hl
  have HS := Lib.hid hs
  clear hC hl hs hmf hc
  by_cases h8 : 8 < l.length
  · have d1 : decide ((8 : Int) < (l.length : Int)) = true := decide_eq_true (by omega)
    have d2 : decide (8 < l.length) = true := decide_eq_true h8
    have HM := Lib.hid (show mayN l = 7 from if_pos h8)
    have HB := Lib.hid (below_alloc (Below.refl _ w) (.cells #[.int .i64 id, .slice A l.length c] 27) (Nat.le_refl _))
    clear h8
    go_enter Tryd.func6, Tryd.ntmps6
    go_wp2_with fail
    go_ret
    exact ⟨by rw [HM.out]; rfl, HB.out⟩
  · have d1 : decide ((8 : Int) < (l.length : Int)) = false := decide_eq_false (by omega)
    have d2 : decide (8 < l.length) = false := decide_eq_false h8
    have HM := Lib.hid (show mayN l = mayD [] l 0 from if_neg h8)
    have H8 := Lib.hid h8
    clear h8
    go_enter Tryd.func6, Tryd.ntmps6
    go_wp2_with fail
    clear d1 d2
    obtain ⟨w1, hw1⟩ : ∃ w1, w1 = w.alloc (.cells #[.int .i64 id, .slice A l.length c] 27) := ⟨_, rfl⟩
    rw [← hw1]
    have HB1 := Lib.hid (show Below w.heap.size w w1 by rw [hw1]; exact below_alloc (Below.refl _ _) _ (Nat.le_refl _))
    have HBX := Lib.hid (show w1.heap[w.heap.size]? = some (.cells #[.int .i64 id, .slice A l.length c] 27 (0, 0)) by rw [hw1]; exact heap_alloc_new w _)
    clear hw1
    go_loopw [3, 15] (fun v3 v15 wr => ∃ i : Nat, v15 = .int .i64 (i : Int) ∧ i ≤ l.length ∧ (∃ n : Nat, v3 = .int .i64 (n : Int) ∧ n ≤ 1000001 * i ∧ mayN l = mayD (l.take i) (l.drop i) n) ∧ Below w1.heap.size w1 wr) (fun _ v15 _ => l.length - (intOf v15).toNat)
    case atStart => exact ⟨0, rfl, by omega, ⟨0, rfl, by omega, by rw [HM.out]; rfl⟩, Below.refl _ _⟩
    case round =>
      clear HM
      obtain ⟨i, rfl, hi, ⟨n, rfl, hn, hm⟩, hB⟩ := hrel
      obtain ⟨W, hW⟩ : ∃ W, W = wr := ⟨_, rfl⟩
      rw [← hW] at hB ⊢
      clear hW wr
      have h8 := H8.out
      by_cases hlt : i < l.length
      · have g1 : (i : Int) < (l.length : Int) := by omega
        have d1 : decide ((i : Int) < (l.length : Int)) = true := decide_eq_true g1
        have hCW := Kd.C_below HC.out (HB1.out.trans (hB.mono HB1.out.size))
        obtain ⟨ad, rfl, c0, c1⟩ := field_in hCW i hlt
        have hdr := List.drop_eq_getElem_cons hlt
        have htk : l.take (i + 1) = l.take i ++ [l[i]] := List.take_succ_eq_append_getElem hlt
        have hsz := HL.out.2 _ (List.getElem_mem hlt)
        have hnz := HS.out _ (List.getElem_mem hlt)
        have dB := cell_stay2 hB ((blk_cell HBX.out 1).trans rfl : w1.cell? ⟨w.heap.size, 1, none⟩ = some (.slice (some ad) l.length c))
        obtain ⟨f, hf⟩ : ∃ f, f = l[i] := ⟨_, rfl⟩
        rw [← hf] at c0 c1 hdr htk hsz hnz
        rw [hdr] at hm
        obtain ⟨F, X⟩ := f
        have hmd : mayN l = if nameB F = false then 4 else if (l.take i).any (fun g => decide (g.f0 = F)) = true then 5 else if tokE (wordsT X) 0 = 0 then mayD (l.take (i + 1)) (l.drop (i + 1)) (n + (wordsT X).length) else tokE (wordsT X) 0 := by rw [hm, htk, mayD_cons]
        have hwl := wordsT_len X
        have HMD := Lib.hid hmd
        have HLT := Lib.hid hlt
        have HCW := Lib.hid hCW
        have HB := Lib.hid hB
        have HSZ := Lib.hid hsz
        have HNZ := Lib.hid hnz
        have HWL := Lib.hid hwl
        have hcut := HCUT.out i (by omega)
        have HN := Lib.hid hn
        clear hf hdr htk hsz hnz hm hmd hCW hB hwl h8 hn
        go_upto_region 7 with fail
        obtain ⟨W1, hW1⟩ : ∃ W1, W1 = W.alloc (.cells #[.string F, .string X] 24 (0, 0)) := ⟨_, rfl⟩
        rw [← hW1]
        have hb2 : Below W.heap.size W W1 := by rw [hW1]; exact below_alloc (Below.refl _ _) _ (Nat.le_refl _)
        have q0 : W1.heap[W.heap.size]? = some (.cells #[.string F, .string X] 24 (0, 0)) := by rw [hW1]; exact heap_alloc_new W _
        have d0 : W1.cell? ⟨W.heap.size, 0, none⟩ = some (.string F) := (blk_cell q0 0).trans rfl
        have d2 : W1.cell? ⟨W.heap.size, 1, none⟩ = some (.string X) := (blk_cell q0 1).trans rfl
        have dB1 := cell_stay2 hb2 dB
        have HB2 := Lib.hid hb2
        have HQ0 := Lib.hid q0
        clear hb2 hW1 q0 dB c0 c1
        go_wp2_with fail
        refine (tokens_any X HSZ.out W1).mono ?_
        rintro e W2 ⟨AT, nT, cT, rfl, hnT, hb3⟩
        obtain ⟨te, hte⟩ : ∃ te, te = tokE (wordsT X) 0 := ⟨_, rfl⟩
        rw [← hte] at hnT ⊢
        have d3 := cell_stay2 hb3 d0
        have dB2 := cell_stay2 hb3 dB1
        have HTE := Lib.hid hte
        have HNT := Lib.hid hnT
        have HB3 := Lib.hid (HB2.out.trans (hb3.mono HB2.out.size))
        have HQ2 := Lib.hid ((hb3.block _ (Array.getElem?_eq_some_iff.1 HQ0.out).1).trans HQ0.out)
        clear hte hnT hb3 d0 d2 dB1 HQ0 HB2
        go_wp2_with fail
        refine (doc_Name.calls F (nameB F) W2 (name_f F HNZ.out)).mono ?_
        rintro e W3 ⟨rfl, hb4⟩
        have dB3 := cell_stay2 hb4 dB2
        have HB4 := Lib.hid (HB3.out.trans (hb4.mono HB3.out.size))
        have HQ3 := Lib.hid ((hb4.block _ (Array.getElem?_eq_some_iff.1 HQ2.out).1).trans HQ2.out)
        clear hb4 d3 dB2 HQ2 HB3
        by_cases hnb : nameB F = true
        · rw [hnb]
          have HNB := Lib.hid (show ¬ nameB F = false by rw [hnb]; decide)
          clear hnb
          have hmf := HMF.out
          go_wp2_with fail
          have hCT := Kd.C_take (Kd.C_below HCW.out HB4.out) (m := i) (by omega)
          have hti : (l.take i).length = i := by rw [List.length_take]; omega
          have hco := contains_any W.heap.size F X (some ad) c (l.take i) W3 hCT (by have := HL.out.1; omega) HQ3.out
          rw [hti] at hco
          refine hco.mono ?_
          rintro e W4 ⟨rfl, hb5⟩
          have HB5 := Lib.hid (HB.out.trans ((HB4.out.trans (hb5.mono HB4.out.size)).mono HB.out.size))
          clear hb5 hco hCT hti dB3 hcut hmf HQ3 HB4
          obtain ⟨y, hy⟩ : ∃ y, y = (l.take i).any (fun g => decide (g.f0 = F)) := ⟨_, rfl⟩
          have HY := Lib.hid hy
          rw [← hy]
          clear hy
          cases y with
          | true =>
            have HR := Lib.hid (show mayN l = 5 by rw [HMD.out, if_neg HNB.out, if_pos HY.out.symm])
            go_wp2_with fail
            go_ret
            exact ⟨by rw [HR.out]; rfl, HB1.out.trans (HB5.out.mono HB1.out.size)⟩
          | false =>
            have hyf : ¬ (l.take i).any (fun g => decide (g.f0 = F)) = true := by rw [← HY.out]; decide
            by_cases ht0 : te = 0
            · have HR := Lib.hid (show mayN l = mayD (l.take (i + 1)) (l.drop (i + 1)) (n + nT) by rw [HMD.out, if_neg HNB.out, if_neg hyf, if_pos (HTE.out.symm.trans ht0), HNT.out ht0])
              have HNT2 := Lib.hid (HNT.out ht0)
              subst ht0
              clear hyf
              have hw1 : wrap64 ((i : Int) + 1) = ((i + 1 : Nat) : Int) := wrap_nat i (by have := HLT.out; have := H8.out; omega)
              have hw2 : IntKind.i64.wrap ((i : Int) + 1) = ((i + 1 : Nat) : Int) := by rw [i64_w]; exact hw1
              go_wp2_with fail
              go_roundw
              case rel =>
                have h1 := HNT2.out
                have h2 := HWL.out
                have h3 := HSZ.out
                have h4 := HN.out
                have h5 : n + nT ≤ 1000001 * (i + 1) := by omega
                have h6 := HLT.out
                have h7 := H8.out
                exact ⟨i + 1, by first | rfl | (push_cast; rfl) | rw [wrap_nat i (by omega)], by omega, ⟨n + nT, by first | rfl | (push_cast; rfl) | (rw [wrap_small _ (by omega)]; push_cast; rfl), h5, HR.out⟩, HB5.out⟩
              case measure =>
                have h6 := HLT.out
                have h7 := H8.out
                simp only [intOf]
                omega
            · have HR := Lib.hid (show mayN l = te by rw [HMD.out, if_neg HNB.out, if_neg hyf, if_neg (fun z => ht0 (HTE.out.trans z)), HTE.out])
              have e1 : (te != 0) = true := by simpa using ht0
              have e2 : (te == 0) = false := by simpa using ht0
              clear hyf ht0
              go_wp2_with fail
              go_ret
              exact ⟨by rw [HR.out]; rfl, HB1.out.trans (HB5.out.mono HB1.out.size)⟩
        · have hnf : nameB F = false := by simpa using hnb
          have HR := Lib.hid (show mayN l = 4 by rw [HMD.out, if_pos hnf])
          rw [hnf]
          clear hnb hnf
          go_wp2_with fail
          go_ret
          exact ⟨by rw [HR.out]; rfl, HB1.out.trans ((HB.out.trans (HB4.out.mono HB.out.size)).mono HB1.out.size)⟩
      · obtain rfl : i = l.length := by omega
        have d1 : decide ((l.length : Int) < (l.length : Int)) = false := decide_eq_false (by omega)
        rw [List.drop_length] at hm
        have HB := Lib.hid (HB1.out.trans (hB.mono HB1.out.size))
        clear hB
        by_cases h5 : 500 < n
        · have HR := Lib.hid (show mayN l = 7 by rw [hm, mayD_nil, if_pos h5])
          have e1 : decide ((500 : Int) < (n : Int)) = true := decide_eq_true (by omega)
          have e2 : decide (500 < n) = true := decide_eq_true h5
          clear hm h5
          go_wp2_with fail
          go_ret
          exact ⟨by rw [HR.out]; rfl, HB.out⟩
        · have HR := Lib.hid (show mayN l = 0 by rw [hm, mayD_nil, if_neg h5])
          have e1 : decide ((500 : Int) < (n : Int)) = false := decide_eq_false (by omega)
          have e2 : decide (500 < n) = false := decide_eq_false h5
          clear hm h5
          go_wp2_with fail
          go_ret
          exact ⟨by rw [HR.out]; rfl, HB.out⟩
def doc_May.f (_a : Int) (l : List S24) : Option Int := if docOk l ∧ ∀ f ∈ l, f.f0.size ≤ 9223372036854775807 then some (mayN l) else none
theorem doc_May.calls (a0_0 : Int) (A0_1 : Option Addr) (c0_1 : Nat) (l0_1 : List S24) (r : Int) (w : World) (hr0_1 : Kd.C k24 w A0_1 l0_1.length l0_1) (hc0_1 : l0_1.length ≤ c0_1) (h : doc_May.f a0_0 l0_1 = some r) :
    Calls Tryd.prog 6 #[.agg #[.int .i64 a0_0, .slice A0_1 l0_1.length c0_1]] w fun e w' => e = .returned (.int .i64 r) ∧ Below w.heap.size w w' := by
  unfold doc_May.f at h
  split at h
  · rename_i hl
    obtain rfl := Option.some.inj h
    exact may_any a0_0 A0_1 c0_1 l0_1 w hr0_1 hc0_1 hl.1 hl.2
  · cases h
end Go.Proofs.YtbbfilmajiilhaaDoor
