/- doc.May's closure, slices.IndexFunc and ContainsFunc over fields: by their own text. Condition: few fields. -/
import Derived.Test.YtbbfilmajiilhaaDoorBnd0
set_option linter.unusedVariables false
set_option linter.unusedSimpArgs false
namespace Go.Proofs.YtbbfilmajiilhaaDoor
open Go.RowKit Go.Shelf Go.Proofs.YtbbfilmajiilhaaDoor.PAll Go.Proofs.YtbbfilmajiilhaaDoorW.PrintWords Go.Proofs.YtbbfilmajiilhaaDoorW.PrintLast Go.Proofs.YtbbfilmajiilhaaDoorW.PrintMore

theorem field_in {w : World} {A : Option Addr} {l : List S24} (hC : Kd.C k24 w A l.length l) (i : Nat) (hi : i < l.length) :
    ∃ ad, A = some ad ∧ w.cell? (ad.add (i * 2)) = some (.string l[i].f0) ∧ w.cell? ⟨(ad.add (i * 2)).block, (ad.add (i * 2)).off + 1, none⟩ = some (.string l[i].f1) := by
  obtain ⟨ad, e, c0, c1⟩ := at_T24 hC (i : Int) (by omega) (by omega)
  have hr : rd_T24 l (i : Int) = l[i] := by unfold rd_T24; rw [Int.toNat_natCast, List.getD_eq_getElem?_getD, List.getElem?_eq_getElem hi]; rfl
  rw [Int.toNat_natCast] at c0 c1
  rw [hr] at c0 c1
  exact ⟨ad, e, c0, c1⟩
set_option maxHeartbeats 1000000 in
theorem may_fn (b : Nat) (F X f x : ByteArray) (W : World) (hb : W.heap[b]? = some (.cells #[.string F, .string X] 24 (0, 0))) :
    Calls Tryd.prog 19 #[.agg #[.string f, .string x], .pointer (some ⟨b, 0, none⟩)] W fun e W' => e = .returned (.bool (f.toList == F.toList)) ∧ Below W.heap.size W W' := by
  have hbl := (Array.getElem?_eq_some_iff.1 hb).1
  have hb1 := below_alloc (Below.refl _ W) (.cells #[.string f, .string x] 24 (0, 0)) (Nat.le_refl _)
  have q3 := (hb1.block b hbl).trans hb
  have c3 : (W.alloc (.cells #[.string f, .string x] 24 (0, 0))).cell? ⟨b, 0, none⟩ = some (.string F) := (blk_cell q3 0).trans rfl
  have HB := Lib.hid hb1
  clear hb q3 hb1
  go_enter Tryd.func19, Tryd.ntmps19
  go_wp2
  go_ret
  exact ⟨rfl, HB.out⟩
set_option maxHeartbeats 2000000 in
set_option maxRecDepth 100000 in
theorem index_any (b : Nat) (F X : ByteArray) (A : Option Addr) (c : Nat) (l : List S24) (w : World) (hC : Kd.C k24 w A l.length l) (hl : l.length ≤ 1000) (hb : w.heap[b]? = some (.cells #[.string F, .string X] 24 (0, 0))) :
    Calls Tryd.prog 29 #[.slice A l.length c, .func (.func 19) #[] #[.pointer (some ⟨b, 0, none⟩)]] w fun e w' => ∃ n : Int, e = .returned (.int .i64 n) ∧ decide (0 ≤ n) = l.any (fun g => decide (g.f0 = F)) ∧ Below w.heap.size w w' := by
  have hbl := (Array.getElem?_eq_some_iff.1 hb).1
  have HE := Lib.hid (fun (f x : ByteArray) (W : World) => (enters_of Tryd.func19 (by kernel_rfl) rfl #[.agg #[.string f, .string x], .pointer (some ⟨b, 0, none⟩)] W))
  have HF := Lib.hid (fun (W : World) (hW : Below w.heap.size w W) (f x : ByteArray) => may_fn b F X f x W ((hW.block b hbl).trans hb))
  have HC := Lib.hid hC
  have HB0 := Lib.hid (Below.refl w.heap.size w)
  clear hC hb hbl
  go_enter Tryd.func29, Tryd.ntmps29
  go_wp2_with fail
  go_loopw [8] (fun v8 wr => ∃ i : Nat, v8 = .int .i64 (i : Int) ∧ i ≤ l.length ∧ (∀ g ∈ l.take i, g.f0 ≠ F) ∧ Below w.heap.size w wr) (fun v8 _ => l.length - (intOf v8).toNat)
  case atStart => exact ⟨0, rfl, by omega, by simp, HB0.out⟩
  case round =>
    obtain ⟨i, rfl, hi, hno, hB⟩ := hrel
    obtain ⟨W, hW⟩ : ∃ W, W = wr := ⟨_, rfl⟩
    rw [← hW] at hB ⊢
    clear hW wr
    have HNO := Lib.hid hno
    have HB := Lib.hid hB
    clear hno hB
    by_cases hlt : i < l.length
    · have g1 : (i : Int) < (l.length : Int) := by omega
      have d1 : decide ((i : Int) < (l.length : Int)) = true := decide_eq_true g1
      obtain ⟨ad, rfl, c0, c1⟩ := field_in (Kd.C_below HC.out HB.out) i hlt
      have hmem : l[i] ∈ l := List.getElem_mem hlt
      have htk : l.take (i + 1) = l.take i ++ [l[i]] := List.take_succ_eq_append_getElem hlt
      obtain ⟨f, hf⟩ : ∃ f, f = l[i] := ⟨_, rfl⟩
      rw [← hf] at c0 c1 hmem htk
      obtain ⟨f, x⟩ := f
      have HMEM := Lib.hid hmem
      have HTK := Lib.hid htk
      have HG := Lib.hid (HF.out W HB.out f x)
      have he := HE.out f x
      clear hf hmem htk HF
      by_cases heq : f = F
      · have e1 : (f.toList == F.toList) = true := by rw [heq]; simp
        have HEQ := Lib.hid heq
        rw [e1] at HG
        clear heq e1
        go_wp2_with fail
        refine HG.out.mono ?_
        rintro e W2 ⟨rfl, hb2⟩
        have HB2 := Lib.hid (HB.out.trans (hb2.mono HB.out.size))
        clear hb2 he
        go_wp2_with fail
        go_ret
        exact ⟨(i : Int), rfl, by rw [decide_eq_true (by omega)]; exact (List.any_eq_true.2 ⟨_, HMEM.out, decide_eq_true HEQ.out⟩).symm, HB2.out⟩
      · have e1 : (f.toList == F.toList) = false := by rw [beq_eq_false_iff_ne]; exact fun z => heq ((bytes_ext _ _).1 z)
        have HEQ := Lib.hid heq
        rw [e1] at HG
        clear heq e1
        go_wp2_with fail
        refine HG.out.mono ?_
        rintro e W2 ⟨rfl, hb2⟩
        have HB2 := Lib.hid (HB.out.trans (hb2.mono HB.out.size))
        clear hb2 he
        go_wp2_with fail
        go_roundw
        case rel =>
          refine ⟨i + 1, by go_num, by omega, ?_, HB2.out⟩
          rw [HTK.out]
          intro g hg
          rcases List.mem_append.1 hg with h | h
          · exact HNO.out g h
          · rw [List.mem_singleton.1 h]; exact HEQ.out
        case measure => simp only [intOf]; omega
    · obtain rfl : i = l.length := by omega
      have d1 : decide ((l.length : Int) < (l.length : Int)) = false := decide_eq_false (by omega)
      go_wp2_with fail
      go_ret
      exact ⟨-1, rfl, by
        rw [decide_eq_false (by omega)]
        refine (List.any_eq_false.2 (fun g hg => ?_)).symm
        rw [← List.take_length (l := l)] at hg
        simpa using HNO.out g hg, HB.out⟩
set_option maxHeartbeats 1000000 in
theorem contains_any (b : Nat) (F X : ByteArray) (A : Option Addr) (c : Nat) (l : List S24) (w : World) (hC : Kd.C k24 w A l.length l) (hl : l.length ≤ 1000) (hb : w.heap[b]? = some (.cells #[.string F, .string X] 24 (0, 0))) :
    Calls Tryd.prog 18 #[.slice A l.length c, .func (.func 19) #[] #[.pointer (some ⟨b, 0, none⟩)]] w fun e w' => e = .returned (.bool (l.any (fun g => decide (g.f0 = F)))) ∧ Below w.heap.size w w' := by
  have HI := Lib.hid (index_any b F X A c l w hC hl hb)
  clear hC hb
  go_enter Tryd.func18, Tryd.ntmps18
  go_wp2_with fail
  refine HI.out.mono ?_
  rintro e w1 ⟨n, rfl, hn, hb1⟩
  have HN := Lib.hid hn
  have HB := Lib.hid hb1
  clear hn hb1
  go_wp2_with fail
  go_ret
  exact ⟨by rw [← HN.out]; rfl, HB.out⟩
end Go.Proofs.YtbbfilmajiilhaaDoor
