/- Joined: TrimC, CloneC, Contains. -/
import Derived.Test.YteidebllianiiaaGreatDoorShelf
import Derived.Test.YteidebllianiiaaGreatDoorBnd0
import Derived.Shelf.Strings.SlTrimAscii
set_option linter.unusedVariables false
set_option linter.unusedSimpArgs false
/- strings.Trim at ASCII cutsets. Condition: sizes. -/
set_option linter.unusedVariables false
set_option linter.unusedSimpArgs false
namespace Go.Proofs.YteidebllianiiaaGreatDoor
open Go.RowKit Go.Shelf Go.Proofs.YteidebllianiiaaGreatDoor.PAll Go.Proofs.YteidebllianiiaaGreatDoorW.PrintWords Go.Proofs.YteidebllianiiaaGreatDoorW.PrintLast

def strings_Trim.f (s c : ByteArray) : Option ByteArray := if s.size ≤ 9223372036854775807 ∧ c.size < 4294967281 ∧ c.data.toList.all (fun b => decide (b.toNat < 128)) = true then some ⟨(Lib.trimS s.data.toList c.data.toList).toArray⟩ else none
set_option maxRecDepth 100000 in
theorem strings_Trim.calls (a0 : ByteArray) (a1 : ByteArray) (r : ByteArray) (w : World) (h : strings_Trim.f a0 a1 = some r) :
    Calls Tryz.prog 65 #[.string a0, .string a1] w fun e w' => e = .returned (.string r) ∧ Below w.heap.size w w' := by
  unfold strings_Trim.f at h
  split at h
  · rename_i hl
    obtain rfl := Option.some.inj h
    exact Any.strings_Trim_laid Tryz.lays160 (by kernel_rfl) a0 a1 w hl.1 hl.2.1 (fun j b hb => of_decide_eq_true (List.all_eq_true.1 hl.2.2 b (List.mem_of_getElem? hb)))
  · cases h
end Go.Proofs.YteidebllianiiaaGreatDoor

/- slices.Clone at fields. Condition: no more than a million. -/
set_option linter.unusedVariables false
set_option linter.unusedSimpArgs false
namespace Go.Proofs.YteidebllianiiaaGreatDoor
open Go.RowKit Go.Proofs.YteidebllianiiaaGreatDoor.PAll Go.Proofs.YteidebllianiiaaGreatDoorW.PrintWords Go.Proofs.YteidebllianiiaaGreatDoorW.PrintLast Go.Proofs.YteidebllianiiaaGreatDoorW.PrintMore

set_option maxHeartbeats 1000000 in
set_option maxRecDepth 100000 in
theorem fields_clone (A : Option Addr) (n c : Nat) (l : List S50) (w : World) (hn : l.length = n) (hr : Kd.C k50 w A n l) (hl : n ≤ 1000000) :
    Calls Tryz.prog 71 #[.slice A n c] w fun e w' => ∃ v, e = .returned v ∧ Kd.R k50 50 w' w.heap.size (fun _ => True) v l ∧ Below w.heap.size w w' := by
  have heq := fun w => Lib.run_eql_slice_nil (P := Tryz.prog) w 29 50 A n c 0 0 Tryz.underlying29
  cases A with
  | none =>
    have h0 : n = 0 := by
      rcases Nat.eq_zero_or_pos n with h | h
      · exact h
      · obtain ⟨ad, e, _⟩ := hr.2.2 h; cases e
    have hl0 : l = [] := List.eq_nil_of_length_eq_zero (by omega)
    subst hl0
    clear hn h0
    go_enter Tryz.func71, Tryz.ntmps71
    go_wp2_with fail
    go_ret
    exact ⟨_, rfl, Kd.R_nil _ _ _ _ _, Below.refl _ _⟩
  | some ad =>
    clear hn
    go_enter Tryz.func71, Tryz.ntmps71
    go_wp2_with (at_builtin; refine Kd.R_append_rows k50 (w0 := w) w.heap.size rfl (.tmp 5) (.tmp 6) 29 50 (.agg #[.string ByteArray.empty, .string ByteArray.empty]) 32 rfl Tryz.underlying29 info50 rfl (by decide) (by decide) _ [] l (some ad) n c (fun _ => True) (fun _ => False) rfl rfl ?c1 ?c2 (fun _ _ h => h) (fun _ h => h.elim) (fun _ _ => trivial) ?c3 ?c4 ?c5 ?_)
    case c1 => exact ⟨fun _ _ => trivial, [], World.ownsRow_made w #[] 0 (Nat.le_refl _) (Nat.zero_le _) rfl, Reps.none _ _⟩
    case c2 => exact Kd.C_below hr ((Below.refl _ w).alloc (Nat.le_refl _) _)
    case c3 => exact (Below.refl _ w).alloc (Nat.le_refl _) _
    case c4 => simp
    case c5 => rw [List.length_nil]; omega
    intro v1 w1 hR hb _ _
    go_wp2
    go_ret
    exact ⟨_, rfl, hR, hb⟩
def api_Field_71.f (l : List S50) : Option (List S50) := if l.length ≤ 1000000 then some l else none
theorem api_Field_71.calls (A0 : Option Addr) (c0 : Nat) (l0 : List S50) (r : List S50) (w : World) (hr0 : Kd.C k50 w A0 l0.length l0) (hc0 : l0.length ≤ c0) (h : api_Field_71.f l0 = some r) :
    Calls Tryz.prog 71 #[.slice A0 l0.length c0] w fun e w' => ∃ v0_ : Value, e = .returned (v0_) ∧ Kd.R k50 50 w' w.heap.size (fun _ => True) v0_ r ∧ Below w.heap.size w w' := by
  unfold api_Field_71.f at h
  split at h
  · rename_i hl
    obtain rfl := Option.some.inj h
    exact fields_clone A0 _ c0 l0 w rfl hr0 hl
  · cases h
end Go.Proofs.YteidebllianiiaaGreatDoor

/- doc.May's closure, slices.IndexFunc and ContainsFunc over fields: by their own text. Condition: few fields. -/
set_option linter.unusedVariables false
set_option linter.unusedSimpArgs false
namespace Go.Proofs.YteidebllianiiaaGreatDoor
open Go.RowKit Go.Shelf Go.Proofs.YteidebllianiiaaGreatDoor.PAll Go.Proofs.YteidebllianiiaaGreatDoorW.PrintWords Go.Proofs.YteidebllianiiaaGreatDoorW.PrintLast Go.Proofs.YteidebllianiiaaGreatDoorW.PrintMore

theorem field_in {w : World} {A : Option Addr} {l : List S50} (hC : Kd.C k50 w A l.length l) (i : Nat) (hi : i < l.length) :
    ∃ ad, A = some ad ∧ w.cell? (ad.add (i * 2)) = some (.string l[i].f0) ∧ w.cell? ⟨(ad.add (i * 2)).block, (ad.add (i * 2)).off + 1, none⟩ = some (.string l[i].f1) := by
  obtain ⟨ad, e, c0, c1⟩ := at_T50 hC (i : Int) (by omega) (by omega)
  have hr : rd_T50 l (i : Int) = l[i] := by unfold rd_T50; rw [Int.toNat_natCast, List.getD_eq_getElem?_getD, List.getElem?_eq_getElem hi]; rfl
  rw [Int.toNat_natCast] at c0 c1
  rw [hr] at c0 c1
  exact ⟨ad, e, c0, c1⟩
set_option maxHeartbeats 1000000 in
theorem may_fn (b : Nat) (F X f x : ByteArray) (W : World) (hb : W.heap[b]? = some (.cells #[.string F, .string X] 50 (0, 0))) :
    Calls Tryz.prog 45 #[.agg #[.string f, .string x], .pointer (some ⟨b, 0, none⟩)] W fun e W' => e = .returned (.bool (f.toList == F.toList)) ∧ Below W.heap.size W W' := by
  have hbl := (Array.getElem?_eq_some_iff.1 hb).1
  have hb1 := below_alloc (Below.refl _ W) (.cells #[.string f, .string x] 50 (0, 0)) (Nat.le_refl _)
  have q3 := (hb1.block b hbl).trans hb
  have c3 : (W.alloc (.cells #[.string f, .string x] 50 (0, 0))).cell? ⟨b, 0, none⟩ = some (.string F) := (blk_cell q3 0).trans rfl
  have HB := Lib.hid hb1
  clear hb q3 hb1
  go_enter Tryz.func45, Tryz.ntmps45
  go_wp2
  go_ret
  exact ⟨rfl, HB.out⟩
set_option maxHeartbeats 2000000 in
set_option maxRecDepth 100000 in
theorem index_any (b : Nat) (F X : ByteArray) (A : Option Addr) (c : Nat) (l : List S50) (w : World) (hC : Kd.C k50 w A l.length l) (hl : l.length ≤ 1000) (hb : w.heap[b]? = some (.cells #[.string F, .string X] 50 (0, 0))) :
    Calls Tryz.prog 66 #[.slice A l.length c, .func (.func 45) #[] #[.pointer (some ⟨b, 0, none⟩)]] w fun e w' => ∃ n : Int, e = .returned (.int .i64 n) ∧ decide (0 ≤ n) = l.any (fun g => decide (g.f0 = F)) ∧ Below w.heap.size w w' := by
  have hbl := (Array.getElem?_eq_some_iff.1 hb).1
  have HE := Lib.hid (fun (f x : ByteArray) (W : World) => (enters_of Tryz.func45 (by kernel_rfl) rfl #[.agg #[.string f, .string x], .pointer (some ⟨b, 0, none⟩)] W))
  have HF := Lib.hid (fun (W : World) (hW : Below w.heap.size w W) (f x : ByteArray) => may_fn b F X f x W ((hW.block b hbl).trans hb))
  have HC := Lib.hid hC
  have HB0 := Lib.hid (Below.refl w.heap.size w)
  clear hC hb hbl
  go_enter Tryz.func66, Tryz.ntmps66
  go_wp2_with fail
  go_loopw [8] (fun v8 wr => ∃ i : Nat, v8 = .int .i64 (i : Int) ∧ i ≤ l.length ∧ (∀ g ∈ l.take i, g.f0 ≠ F) ∧ Below w.heap.size w wr) (fun v8 _ => l.length - (intOf v8).toNat)
  case atStart => exact ⟨0, rfl, by omega, by simp, HB0.out⟩
  case round =>
    obtain ⟨i, rfl, hi, hno, hB⟩ := hrel
    obtain ⟨W, hW⟩ : ∃ W, W = wr := ⟨_, rfl⟩
    rw [← hW] at hB ⊢
    clear hW wr
    have HNO := Lib.hid hno
    have HB := Lib.hid hB
    clear hno hB
    by_cases hlt : i < l.length
    · have g1 : (i : Int) < (l.length : Int) := by omega
      have d1 : decide ((i : Int) < (l.length : Int)) = true := decide_eq_true g1
      obtain ⟨ad, rfl, c0, c1⟩ := field_in (Kd.C_below HC.out HB.out) i hlt
      have hmem : l[i] ∈ l := List.getElem_mem hlt
      have htk : l.take (i + 1) = l.take i ++ [l[i]] := List.take_succ_eq_append_getElem hlt
      obtain ⟨f, hf⟩ : ∃ f, f = l[i] := ⟨_, rfl⟩
      rw [← hf] at c0 c1 hmem htk
      obtain ⟨f, x⟩ := f
      have HMEM := Lib.hid hmem
      have HTK := Lib.hid htk
      have HG := Lib.hid (HF.out W HB.out f x)
      have he := HE.out f x
      clear hf hmem htk HF
      by_cases heq : f = F
      · have e1 : (f.toList == F.toList) = true := by rw [heq]; simp
        have HEQ := Lib.hid heq
        rw [e1] at HG
        clear heq e1
        go_wp2_with fail
        refine HG.out.mono ?_
        rintro e W2 ⟨rfl, hb2⟩
        have HB2 := Lib.hid (HB.out.trans (hb2.mono HB.out.size))
        clear hb2 he
        go_wp2_with fail
        go_ret
        exact ⟨(i : Int), rfl, by rw [decide_eq_true (by omega)]; exact (List.any_eq_true.2 ⟨_, HMEM.out, decide_eq_true HEQ.out⟩).symm, HB2.out⟩
      · have e1 : (f.toList == F.toList) = false := by rw [beq_eq_false_iff_ne]; exact fun z => heq ((bytes_ext _ _).1 z)
        have HEQ := Lib.hid heq
        rw [e1] at HG
        clear heq e1
        go_wp2_with fail
        refine HG.out.mono ?_
        rintro e W2 ⟨rfl, hb2⟩
        have HB2 := Lib.hid (HB.out.trans (hb2.mono HB.out.size))
        clear hb2 he
        go_wp2_with fail
        go_roundw
        case rel =>
          refine ⟨i + 1, by go_num, by omega, ?_, HB2.out⟩
          rw [HTK.out]
          intro g hg
          rcases List.mem_append.1 hg with h | h
          · exact HNO.out g h
          · rw [List.mem_singleton.1 h]; exact HEQ.out
        case measure => simp only [intOf]; omega
    · obtain rfl : i = l.length := by omega
      have d1 : decide ((l.length : Int) < (l.length : Int)) = false := decide_eq_false (by omega)
      go_wp2_with fail
      go_ret
      exact ⟨-1, rfl, by
        rw [decide_eq_false (by omega)]
        refine (List.any_eq_false.2 (fun g hg => ?_)).symm
        rw [← List.take_length (l := l)] at hg
        simpa using HNO.out g hg, HB.out⟩
set_option maxHeartbeats 1000000 in
theorem contains_any (b : Nat) (F X : ByteArray) (A : Option Addr) (c : Nat) (l : List S50) (w : World) (hC : Kd.C k50 w A l.length l) (hl : l.length ≤ 1000) (hb : w.heap[b]? = some (.cells #[.string F, .string X] 50 (0, 0))) :
    Calls Tryz.prog 44 #[.slice A l.length c, .func (.func 45) #[] #[.pointer (some ⟨b, 0, none⟩)]] w fun e w' => e = .returned (.bool (l.any (fun g => decide (g.f0 = F)))) ∧ Below w.heap.size w w' := by
  have HI := Lib.hid (index_any b F X A c l w hC hl hb)
  clear hC hb
  go_enter Tryz.func44, Tryz.ntmps44
  go_wp2_with fail
  refine HI.out.mono ?_
  rintro e w1 ⟨n, rfl, hn, hb1⟩
  have HN := Lib.hid hn
  have HB := Lib.hid hb1
  clear hn hb1
  go_wp2_with fail
  go_ret
  exact ⟨by rw [← HN.out]; rfl, HB.out⟩
end Go.Proofs.YteidebllianiiaaGreatDoor
