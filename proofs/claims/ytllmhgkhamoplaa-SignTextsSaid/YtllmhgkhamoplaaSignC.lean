import Derived.Test.YtllmhgkhamoplaaRefs
import Derived.Test.YtllmhgkhamoplaaSignsE
import Derived.Test.YtllmhgkhamoplaaText
import Derived.Test.YtllmhgkhamoplaaLives
import Derived.Test.YtllmhgkhamoplaaWNEv
/-! What each callee of the laws tells, in the walks' form. -/
namespace Go.Proofs.Ytllmhgkhamoplaa
open Go.RowKit Go.Proofs.Ytllmhgkhamoplaa.PAll Go.Proofs.YtllmhgkhamoplaaW.PrintWords Go.Proofs.YtllmhgkhamoplaaW.PrintLast

/-- What a walk is told of a slice of whole numbers that came in. -/
def IsRow (k : IntKind) (w : World) (a : Option Addr) (len cap : Nat) (zs : List Int) : Prop :=
  (a = none ∧ len = 0 ∧ cap = 0 ∧ zs = []) ∨
  ∃ x, a = some x ∧ len ≤ cap ∧ cap ≤ maxLen ∧ zs.length = cap ∧ (∀ i, i < zs.length → w.cell? (x.add i) = some (.int k (zs.getD i 0))) ∧ ∀ n ∈ zs, (Lit.int k n).wf = true
/-- A slice that reads as a list of numbers: n of them. -/
def Ints (w : World) (A : Option Addr) (n c : Nat) (l : List Int) : Prop := l.length = n ∧ n ≤ c ∧ c ≤ maxLen ∧ Kd.C (Kd.int .i64) w A n l

theorem Ints.of_row {w : World} {A : Option Addr} {n c : Nat} {z : List Int} (h : IsRow .i64 w A n c z) : Ints w A n c (z.take n) := by
  rcases h with ⟨rfl, rfl, rfl, rfl⟩ | ⟨x, rfl, hnc, hcm, hz, hc, _⟩
  · exact ⟨rfl, Nat.le_refl _, by decide, Kd.C_of_reads (d := 0) ⟨rfl, by decide, fun h => by omega⟩⟩
  · have hl : (z.take n).length = n := by rw [List.length_take]; omega
    refine ⟨hl, hnc, hcm, Kd.C_of_reads (d := 0) ⟨hl, by unfold maxLen at hcm; omega, fun _ => ⟨x, rfl, fun j hj => ?_⟩⟩⟩
    rw [hc j (by omega), List.getD_eq_getElem?_getD, List.getD_eq_getElem?_getD, List.getElem?_take, if_pos hj]
theorem Ints.below {w w' : World} {A : Option Addr} {n c : Nat} {l : List Int} (h : Ints w A n c l) (hb : Below w.heap.size w w') : Ints w' A n c l := ⟨h.1, h.2.1, h.2.2.1, Kd.C_below h.2.2.2 hb⟩
theorem Ints.take {w : World} {A : Option Addr} {n c : Nat} {l : List Int} (h : Ints w A n c l) (m : Nat) (hm : m ≤ n) : Ints w A m c (l.take m) := by
  have hr := Kd.reads_of_C (d := (0 : Int)) h.2.2.2
  have hl : (l.take m).length = m := by rw [List.length_take, h.1]; omega
  refine ⟨hl, by have := h.2.1; omega, h.2.2.1, Kd.C_of_reads (d := 0) ⟨hl, by have := hr.2.1; omega, fun h0 => ?_⟩⟩
  obtain ⟨ad, e, hc⟩ := hr.2.2 (by omega)
  refine ⟨ad, e, fun j hj => ?_⟩
  rw [hc j (by omega), List.getD_eq_getElem?_getD, List.getD_eq_getElem?_getD, List.getElem?_take, if_pos hj]
theorem Ints.of_R {base : Nat} {w : World} {ok : Nat → Prop} {v : Value} {l : List Int} (h : Kd.R (Kd.int .i64) 3 w base ok v l) : ∃ A c, v = .slice A l.length c ∧ Ints w A l.length c l := by
  obtain ⟨A, c, hv, hl, hr⟩ := Kd.R_reads h
  refine ⟨A, c, hv, rfl, hl, ?_, hr⟩
  have ho := Kd.own_of_R h
  rcases ho.2 with ⟨h1, h2⟩ | ⟨g, cap, cur, h1, _, _, _, hm, _⟩
  · rw [hv] at h1; injection h1 with _ _ h1; rw [h1]; decide
  · rw [hv] at h1; injection h1 with _ _ h1; rw [h1]; exact hm

theorem c_few (s : ByteArray) (w : World) : Calls Try.prog 14 #[.string s] w fun e w' => ∃ b, e = .returned (.string b) ∧ b.size ≤ 100 ∧ w = w' := by
  by_cases h : 100 < s.size
  · have hs : (s.extract 0 100).size ≤ 100 := by
      rw [← size_data, ByteArray.data_extract, Array.toList_extract]
      simp
      omega
    go_enter Try.func14, Try.ntmps14
    go_wp2
    go_ret
    exact ⟨_, rfl, hs, rfl⟩
  · go_enter Try.func14, Try.ntmps14
    go_wp2
    go_ret
    exact ⟨s, rfl, by omega, rfl⟩

theorem c_signs (s : ByteArray) (w : World) (h : s.size ≤ 1000000000000) : Calls Try.prog 16 #[.string s] w fun e w' => ∃ A n c, e = .returned (.slice A n c) ∧ n ≤ s.size ∧ Ints w' A n c (signs s.data.toList) ∧ Below w.heap.size w w' := by
  refine (sign_Signs.calls s _ w (if_pos h)).mono ?_
  rintro e w' ⟨v, rfl, hr, hb⟩
  obtain ⟨A, c, rfl, hi⟩ := Ints.of_R hr
  exact ⟨A, _, c, rfl, by rw [← size_data]; exact signs_length _, hi, hb⟩
theorem c_rsigns (s : ByteArray) (w : World) (h : s.size ≤ 1000000000000) : Calls Try.prog 17 #[.string s] w fun e w' => ∃ A n c, e = .returned (.slice A n c) ∧ n ≤ s.size ∧ Ints w' A n c (signs s.data.toList) ∧ Below w.heap.size w w' := by
  obtain ⟨k, hk⟩ := (rsigns_ev s h).rounds
  refine (concordanceref01_Signs.calls k s _ w hk).mono ?_
  rintro e w' ⟨v, rfl, hr, hb⟩
  obtain ⟨A, c, rfl, hi⟩ := Ints.of_R hr
  exact ⟨A, _, c, rfl, by rw [← size_data]; exact signs_length _, hi, hb⟩
theorem size_text (l : List Int) : (⟨(text l).toArray⟩ : ByteArray).size ≤ 4 * l.length := by
  rw [← size_data]
  simpa using text_length l
theorem c_text (A : Option Addr) (n c : Nat) (l : List Int) (w : World) (h : Ints w A n c l) (hn : n ≤ 1000000000000) : Calls Try.prog 18 #[.slice A n c] w fun e w' => ∃ b, e = .returned (.string b) ∧ Hid (b = ⟨(text l).toArray⟩) ∧ b.size ≤ 4 * n ∧ Below w.heap.size w w' := by
  obtain ⟨rfl, _, _, h4⟩ := h
  refine (text_any A c l w h4 hn).mono ?_
  rintro e w' ⟨rfl, hb⟩
  exact ⟨_, rfl, Lib.hid rfl, size_text l, hb⟩
theorem c_rtext (A : Option Addr) (n c : Nat) (l : List Int) (w : World) (h : Ints w A n c l) (hn : n ≤ 1000000000000) : Calls Try.prog 19 #[.slice A n c] w fun e w' => ∃ b, e = .returned (.string b) ∧ Hid (b = ⟨(text l).toArray⟩) ∧ b.size ≤ 4 * n ∧ Below w.heap.size w w' := by
  obtain ⟨rfl, h2, _, h4⟩ := h
  obtain ⟨k, hk⟩ := (rtext_ev l hn).rounds
  refine (concordanceref01_Text.calls k A c l _ w h4 h2 hk).mono ?_
  rintro e w' ⟨rfl, hb⟩
  exact ⟨_, rfl, Lib.hid rfl, size_text l, hb⟩
theorem c_same (A B : Option Addr) (n m c d : Nat) (l o : List Int) (w : World) (h : Ints w A n c l) (k : Ints w B m d o) (hn : n ≤ 1000000000000000) : Calls Try.prog 15 #[.slice A n c, .slice B m d] w fun e w' => e = .returned (.bool (decide (l = o))) ∧ Below w.heap.size w w' := by
  obtain ⟨rfl, h2, _, h4⟩ := h
  obtain ⟨rfl, k2, _, k4⟩ := k
  obtain ⟨q, hq⟩ := (same_ev l o hn).rounds
  refine (concordanceref01_Same.calls q A c l B d o _ w h4 h2 k4 k2 hq).mono ?_
  rintro e w' ⟨he, hd⟩
  exact ⟨he, hd.below⟩
end Go.Proofs.Ytllmhgkhamoplaa
