/- dict.sorted: lists' things, rising, each once. No condition but on size. -/
import Derived.Test.YtlghcfhmfbdidaaJAllx0
import Derived.Test.YtlghcfhmfbdidaaShelf
import Derived.Lib.OwnBridge
import Derived.Sort.OwnSorted
import Derived.Lib.Hide
import Derived.WalkSpells
import Derived.WalkLawsBesides
namespace Go.Proofs.Ytlghcfhmfbdidaa
open Go.RowKit Go.Shelf Go.Sort Go.Proofs.Ytlghcfhmfbdidaa.PAll Go.Proofs.YtlghcfhmfbdidaaW.PrintWords Go.Proofs.YtlghcfhmfbdidaaW.PrintLast Go.Proofs.YtlghcfhmfbdidaaW.PrintMore

/-- slices.Grow at nil. -/
theorem s_grow (n : Nat) (w : World) (hn : n ≤ 1000000) :
    Calls Try.prog 47 #[.slice none 0 0, .int .i64 n] w fun e w' => ∃ v, e = .returned v ∧ Kd.R Kd.string 9 w' w.heap.size (fun _ => True) v [] ∧ Below w.heap.size w w' := by
  rcases Nat.eq_zero_or_pos n with rfl | hp
  · go_enter Try.func47, Try.ntmps47
    go_wp2_with fail
    go_ret
    exact ⟨_, rfl, Kd.R_nil _ _ _ _ _, Below.refl _ _⟩
  · go_enter Try.func47, Try.ntmps47
    go_wp2_with (at_builtin; go_loud (refine Kd.R_append_zeros Kd.string (w0 := w) w.heap.size rfl (.tmp 20) (.tmp 21) 22 3 9 (.string ⟨#[]⟩) 16 rfl Try.underlying22 Try.underlying3 info9 rfl (by decide) (by decide) _ [] (⟨#[]⟩ : ByteArray) (n : Int) (fun _ => True) rfl rfl ?c1 (fun _ _ => trivial) (Kd.R_nil _ _ _ _ _) (by omega) (Below.refl _ _) (Nat.le_refl _) ?c2 ?_))
    case c1 => rfl
    case c2 => rw [List.length_nil]; omega
    intro v1 w1 hR hb _ _
    obtain ⟨A1, c1, rfl⟩ := Kd.R_slice hR
    have hT := Kd.R_take (m := 0) hR (Nat.zero_le _)
    rw [List.take_zero] at hT
    rw [List.length_replicate] at hR ⊢
    have hc1 := (Kd.R_reads' hR).2.1
    have hq : (0 : Int) ≤ (c1 : Int) := by omega
    go_wp2_with fail
    go_ret
    exact ⟨_, rfl, hT, hb⟩

def sizeTo (l : List (List ByteArray)) (k : Nat) : Nat := (l.take k).flatten.length
def joinTo (l : List (List ByteArray)) (k : Nat) : List ByteArray := (l.take k).flatten
theorem joinTo_succ (l : List (List ByteArray)) (k : Nat) (h : k < l.length) : joinTo l (k + 1) = joinTo l k ++ rd_L2 l (k : Int) := by
  unfold joinTo rd_L2; rw [Int.toNat_natCast, List.take_succ_eq_append_getElem h, List.flatten_append, List.flatten_singleton, List.getD_eq_getElem?_getD, List.getElem?_eq_getElem h]; rfl
theorem sizeTo_succ (l : List (List ByteArray)) (k : Nat) (h : k < l.length) : sizeTo l (k + 1) = sizeTo l k + (rd_L2 l (k : Int)).length := by
  have := congrArg List.length (joinTo_succ l k h)
  rw [List.length_append] at this
  exact this
theorem sizeTo_le (l : List (List ByteArray)) (k : Nat) : sizeTo l k ≤ l.flatten.length := by
  unfold sizeTo
  conv => rhs; rw [← List.take_append_drop k l, List.flatten_append, List.length_append]
  exact Nat.le_add_right _ _

set_option maxRecDepth 100000 in
/-- slices.Concat: all, one behind the other. -/
theorem s_concat (A : Option Addr) (c : Nat) (l : List (List ByteArray)) (w : World) (hC : Kd.C (Kd.slice 9 Kd.string) w A l.length l) (hn : l.length ≤ 1000) (hs : l.flatten.length ≤ 100000) :
    Calls Try.prog 42 #[.slice A l.length c] w fun e w' => ∃ v, e = .returned v ∧ Kd.R Kd.string 9 w' w.heap.size (fun _ => True) v l.flatten ∧ Below w.heap.size w w' := by
  have hsz : ∀ k, sizeTo l k ≤ 100000 := fun k => Nat.le_trans (sizeTo_le l k) hs
  have HSZ := Lib.hid hsz
  have HC := Lib.hid hC
  clear hC hs hsz
  obtain ⟨n, hnn⟩ : ∃ n, l.length = n := ⟨_, rfl⟩
  have HN := Lib.hid hnn
  rw [hnn] at hn ⊢
  rw [hnn] at HC
  clear hnn
  go_enter Try.func42, Try.ntmps42
  go_wp2_with fail
  go_loopw [3, 11] (fun a i wr => ∃ k : Nat, k ≤ n ∧ i = .int .i64 k ∧ a = .int .i64 (sizeTo l k) ∧ wr = w) (fun _ i _ => n - (intOf i).toNat)
  case atStart => exact ⟨0, by omega, rfl, rfl, rfl⟩
  case round =>
    obtain ⟨k, hk, rfl, rfl, hw⟩ := hrel
    have hw2 := hw.symm
    clear hw
    subst hw2
    by_cases hlt : k < n
    · obtain ⟨ad, A0, c0, rfl, hx, -, -⟩ := at_L2 HC.out (k : Int) (by omega) (by omega)
      rw [Int.toNat_natCast] at hx
      have HS := Lib.hid (sizeTo_succ l k (by rw [HN.out]; exact hlt))
      have hb1 := HSZ.out k
      have hb2 := HSZ.out (k + 1)
      rw [HS.out] at hb2
      have p0 := eq_true (show (0 : Int) ≤ (k : Int) by omega)
      have p1 := eq_true (show (k : Int) < (n : Int) by omega)
      generalize (rd_L2 l (k : Int)).length = q at *
      go_wp2
      go_roundw
      case rel => exact ⟨k + 1, by omega, by go_num, by rw [HS.out]; go_num, trivial⟩
      case measure => simp [intOf]; omega
    · obtain rfl : k = n := by omega
      have hb1 := HSZ.out k
      go_wp2_with fail
      refine (s_grow _ _ (by omega)).mono ?_
      rintro e w1 ⟨v, rfl, hR, hb⟩
      obtain ⟨A1, c1, rfl⟩ := Kd.R_slice hR
      go_wp2_with fail
      go_loopw [6, 27] (fun a i ws => ∃ j : Nat, j ≤ k ∧ i = .int .i64 j ∧ Kd.R Kd.string 9 ws w.heap.size (fun _ => True) a (joinTo l j) ∧ Below w.heap.size w ws) (fun _ i _ => k - (intOf i).toNat)
      case atStart => exact ⟨0, by omega, rfl, hR, hb⟩
      case round =>
        clear hR hb
        obtain ⟨j, hj, rfl, hR2, hb2⟩ := hrel
        by_cases hlt : j < k
        · obtain ⟨ad, A0, c0, rfl, hx, -, h4⟩ := at_L2 HC.out (j : Int) (by omega) (by omega)
          rw [Int.toNat_natCast] at hx
          have hx2 := (hb2.cell (World.block_lt_of_cell? _ _ hx)).trans hx
          have hJ := Lib.hid (joinTo_succ l j (by rw [HN.out]; exact hlt))
          have hb3 := HSZ.out j
          have hb4 := HSZ.out (j + 1)
          rw [sizeTo_succ l j (by rw [HN.out]; exact hlt)] at hb4
          have hb5 : (joinTo l j).length ≤ 100000 := hb3
          obtain ⟨A2, c2, rfl⟩ := Kd.R_slice hR2
          have p0 := eq_true (show (0 : Int) ≤ (j : Int) by omega)
          have p1 := eq_true (show (j : Int) < (k : Int) by omega)
          have H4 := Lib.hid h4
          have HR := Lib.hid hR2
          generalize hM : (joinTo l j).length = M at *
          generalize hI : (rd_L2 l (j : Int)).length = I at *
          have HM := Lib.hid hM
          have HI := Lib.hid hI
          clear hx h4 hM hI hR2
          go_wp2_with (at_builtin; refine Kd.R_append_rows Kd.string (w0 := w) w.heap.size rfl (.tmp 31) (.tmp 32) 22 9 (.string ⟨#[]⟩) 16 rfl Try.underlying22 info9 rfl (by decide) (by decide) _ (joinTo l j) (rd_L2 l (j : Int)) A0 I c0 (fun _ => True) (fun _ => False) rfl rfl ?c1 ?c2 (fun _ _ h => h) (fun _ h => h.elim) (fun _ _ => trivial) ?c3 ?c4 ?c5 ?_)
          case c1 => exact HR.out
          case c2 => exact Kd.C_below H4.out hb2
          case c3 => exact hb2
          case c4 => exact hb2.size
          case c5 => rw [HM.out]; omega
          intro v3 w3 hR3 hb6 _ _
          rw [← hJ.out] at hR3
          obtain ⟨A3, c3, rfl⟩ := Kd.R_slice hR3
          go_wp2
          go_roundw
          case rel => exact ⟨j + 1, by omega, by go_num, hR3, hb6⟩
          case measure => simp [intOf]; omega
        · obtain rfl : j = k := by omega
          obtain ⟨A2, c2, rfl⟩ := Kd.R_slice hR2
          have e0 : joinTo l j = l.flatten := by unfold joinTo; rw [List.take_of_length_le (by rw [HN.out]; exact Nat.le_refl _)]
          rw [e0] at hR2 ⊢
          have HR := Lib.hid hR2
          clear hR2 e0
          obtain ⟨M, hM⟩ : ∃ M, l.flatten.length = M := ⟨_, rfl⟩
          rw [hM] at HR ⊢
          clear hM
          go_wp2
          go_ret
          exact ⟨_, rfl, HR.out, hb2⟩

/-- Bytes. -/
def chars (l : List ByteArray) : List (List UInt8) := l.map (·.data.toList)
def unchars (l : List (List UInt8)) : List ByteArray := l.map (fun x => ⟨x.toArray⟩)
theorem chars_un (l : List (List UInt8)) : chars (unchars l) = l := by
  unfold chars unchars; rw [List.map_map]
  conv => rhs; rw [← List.map_id l]
  apply List.map_congr_left; intro x _; simp
theorem un_chars (l : List ByteArray) : unchars (chars l) = l := by
  unfold chars unchars; rw [List.map_map]
  conv => rhs; rw [← List.map_id l]
  apply List.map_congr_left; intro x _; simp
/-- In their row, each once. -/
def sortedU (l : List ByteArray) : List ByteArray := unchars (Lib.compact ((chars l).mergeSort fun x y => decide (x ≤ y)))
theorem chars_enc (l : List ByteArray) : (chars l).map encStr = encs Value.string l := Lib.map_encStr l

set_option maxHeartbeats 1000000 in
theorem sorted_any (A : Option Addr) (c : Nat) (l : List (List ByteArray)) (w : World) (hC : Kd.C (Kd.slice 9 Kd.string) w A l.length l) (hn : l.length ≤ 1000) (hs : l.flatten.length ≤ 100000) :
    Calls Try.prog 39 #[.slice A l.length c] w fun e w' => ∃ v, e = .returned v ∧ Kd.R Kd.string 9 w' w.heap.size (fun _ => True) v (sortedU l.flatten) ∧ Below w.heap.size w w' := by
  have H1 := Lib.hid (s_concat A c l w hC hn hs)
  clear hC
  generalize l.length = n at *
  generalize l.flatten = fl at *
  go_enter Try.func39, Try.ntmps39
  go_wp2_with fail
  refine H1.out.mono ?_
  rintro e w1 ⟨v, rfl, hR, hb⟩
  have ho := Kd.own_of_R hR
  have HO := Lib.hid ho
  rcases ho.2 with ⟨rfl, h0⟩ | ⟨g, cap, cur, rfl, hge, hg, h1, h2, h3, h4⟩
  · have hf : fl = [] := List.eq_nil_of_length_eq_zero h0
    subst hf
    clear hR h0
    go_wp2_with fail
    refine (Try.slices_Sort_string_none none 0 w1).mono ?_
    rintro e w2 ⟨rfl, rfl⟩
    go_wp2_with fail
    refine (Try.slices_Compact_string_empty none 0 _).mono ?_
    rintro e w3 ⟨rfl, rfl⟩
    go_wp2_with fail
    go_ret
    exact ⟨.slice none 0 0, rfl, by rw [show sortedU [] = [] by simp [sortedU, chars, unchars, Lib.compact, Lib.compactUpTo]]; exact Kd.R_nil _ _ _ _ _, hb⟩
  · have hcl : (chars fl).length = fl.length := by unfold chars; simp
    have hsl : ((chars fl).mergeSort fun x y => decide (x ≤ y)).length = fl.length := by rw [List.length_mergeSort]; exact hcl
    have hH : Holds encStr w1 g 0 (chars fl).toArray := by
      have ho' : w1.ownsRow w.heap.size 9 1 (.slice (some ⟨g, 0, none⟩) fl.length cap) fl.length ((chars fl).map encStr) := by rw [chars_enc]; exact HO.out
      obtain ⟨g', cap', e1, _, _, _, _, _, hh⟩ := Lib.holds_of_ownsRow ho' (by simp)
      cases e1; exact hh
    have hgl : g < w1.heap.size := (Array.getElem?_eq_some_iff.1 hg).1
    have hsort := Try.slices_Sort_string g 0 cap (chars fl) w1 hH hgl (by omega)
    rw [hcl] at hsort
    have X := Lib.hid (And.intro hH (And.intro hgl (And.intro hcl hsl)))
    have HS := Lib.hid hsort
    clear hH hgl hcl hsl hsort hR h3 h4
    go_wp2_with fail
    refine HS.out.mono ?_
    rintro e w2 ⟨rfl, nn, os, rfl⟩
    have hH2 : Holds encStr (grow (putRow encStr (Sort.ahead w1 nn) g 0 ((chars fl).mergeSort fun x y => decide (x ≤ y)).toArray) os) g 0 ((chars fl).mergeSort fun x y => decide (x ≤ y)).toArray :=
      holds_grow encStr _ os g 0 _ (by simpa [putRow, mapBlock, Sort.ahead] using X.out.2.1) (holds_putRow encStr _ g 0 _ _ (holds_ahead encStr w1 nn g 0 _ X.out.1) (by simp))
    have hcomp := Try.slices_Compact_string g 0 cap ((chars fl).mergeSort fun x y => decide (x ≤ y)) _ hH2 (by rw [X.out.2.2.2]; omega) (by rw [X.out.2.2.2]; exact h1)
    rw [X.out.2.2.2] at hcomp
    have HC := Lib.hid hcomp
    clear hH2 hcomp
    go_wp2_with fail
    refine HC.out.mono ?_
    rintro e w3 ⟨rfl, q, rfl⟩
    go_wp2_with fail
    go_ret
    obtain ⟨x1, x2, x3, x4⟩ := X.out
    have hle := Lib.compact_length_le ((chars fl).mergeSort fun x y => decide (x ≤ y))
    have hown := HO.out
    rcases hown.2 with ⟨e0, _⟩ | ⟨g', cap', cur', e0, hbase, hb', h1', h2', h3', h4'⟩
    · cases e0
    cases e0
    have hsr := ownsRow_sorted (n := nn) (os := os) (ss := chars fl) (ts := (chars fl).mergeSort fun x y => decide (x ≤ y)) (by rw [x4, x3]) hbase hb' (by rw [x3]; exact h1') h2' h3'
    rw [x3] at hsr
    have hc := Lib.ownsRow_putRow (q := q) (k := (Lib.compact ((chars fl).mergeSort fun x y => decide (x ≤ y))).length) (ys := Lib.compact ((chars fl).mergeSort fun x y => decide (x ≤ y)) ++ List.replicate (fl.length - (Lib.compact ((chars fl).mergeSort fun x y => decide (x ≤ y))).length) []) hsr (by simp; omega) (by omega)
    rw [List.take_left] at hc
    have hlen : (sortedU fl).length = (Lib.compact ((chars fl).mergeSort fun x y => decide (x ≤ y))).length := by unfold sortedU unchars; simp
    have henc : (Lib.compact ((chars fl).mergeSort fun x y => decide (x ≤ y))).map encStr = encs Value.string (sortedU fl) := by
      rw [← chars_enc]; unfold sortedU; rw [chars_un]
    rw [henc, ← hlen] at hc
    rw [← hlen]
    exact ⟨_, rfl, Kd.R_of_own hc (fun _ _ => trivial), Lib.below_putRow (hb.grown (grownBy_sorted _) hb.size (fun j hj => by cases hj; exact hbase)) hge⟩

def dict_sorted_string.f (l0 : List (List ByteArray)) : Option (List ByteArray) := if l0.length ≤ 1000 ∧ l0.flatten.length ≤ 100000 then some (sortedU l0.flatten) else none
theorem dict_sorted_string.calls (A0 : Option Addr) (c0 : Nat) (l0 : List (List ByteArray)) (r : List ByteArray) (w : World) (hr0 : Kd.C (Kd.slice 9 Kd.string) w A0 l0.length l0) (_hc0 : l0.length ≤ c0) (h : dict_sorted_string.f l0 = some r) :
    Calls Try.prog 39 #[.slice A0 l0.length c0] w fun e w' => ∃ v0_ : Value, e = .returned (v0_) ∧ Kd.R Kd.string 9 w' w.heap.size (fun _ => True) v0_ r ∧ Below w.heap.size w w' := by
  unfold dict_sorted_string.f at h
  split at h
  · rename_i hh
    cases h
    exact sorted_any A0 c0 l0 w hr0 hh.1 hh.2
  · cases h
end Go.Proofs.Ytlghcfhmfbdidaa
