import Derived.Test.YtoephmnkenlmiaaRows
import Derived.Test.YtoephmnkenlmiaaShelf
import Derived.WalkKit
import Derived.Test.YtoephmnkenlmiaaWMore
import Derived.WalkSpells
import Derived.WalkLawsBesides
import Derived.Deep.QuietTactic
import Derived.BigQuiet
import Derived.Lib.IndexLaws
/-! word.Term: a key's term. -/
namespace Go.Proofs.Ytoephmnkenlmiaa
open Go.RowKit Go.Proofs.YtoephmnkenlmiaaW.PrintWords Go.Proofs.YtoephmnkenlmiaaW.PrintLast

theorem cut_some (s : ByteArray) (i : Nat) (w : World) (hi : Lib.indexByte s.data.toList 0 = (i : Int)) (hlt : i < s.size) (hsz : s.size ≤ 1000000000) :
    Calls Try.prog 41 #[.string s, .string ⟨#[0]⟩] w fun e w' => e = .returned (.tuple #[.string (s.extract 0 i), .string (s.extract (i + 1) s.size), .bool true]) ∧ ∃ n, w' = w.drewN n := by
  have h1 : (i : Int) ≤ (s.size : Int) := by omega
  have h2 : (i : Int) + 1 ≤ (s.size : Int) := by omega
  go_enter Try.func41, Try.ntmps41
  go_wp2_with fail
  refine (Try.stringslite_Index_one s 0 w).mono ?_
  rintro e w' ⟨rfl, rfl⟩
  rw [hi]
  go_wp2_with fail
  go_quiet (fail)
  go_wp2
  refine bodyPost_ret (v := .tuple #[.string (s.extract 0 i), .string (s.extract (i + 1) s.size), .bool true]) ?_ rfl ⟨rfl, _, rfl⟩
  simp [results, Try.results41, go_sem]
theorem cut_none (s : ByteArray) (w : World) (hi : Lib.indexByte s.data.toList 0 = -1) :
    Calls Try.prog 41 #[.string s, .string ⟨#[0]⟩] w fun e w' => e = .returned (.tuple #[.string s, .string ByteArray.empty, .bool false]) ∧ ∃ n, w' = w.drewN n := by
  go_enter Try.func41, Try.ntmps41
  go_wp2_with fail
  refine (Try.stringslite_Index_one s 0 w).mono ?_
  rintro e w' ⟨rfl, rfl⟩
  rw [hi]
  go_wp2
  refine bodyPost_ret (v := .tuple #[.string s, .string ByteArray.empty, .bool false]) ?_ rfl ⟨rfl, 0, rfl⟩
  simp [results, Try.results41, go_sem]
  rfl
/-- A key, cut at its first byte 0. -/
def cutM (s : ByteArray) : ByteArray × ByteArray × Bool :=
  if 0 ≤ Lib.indexByte s.data.toList 0 then (s.extract 0 (Lib.indexByte s.data.toList 0).toNat, s.extract ((Lib.indexByte s.data.toList 0).toNat + 1) s.size, true) else (s, ByteArray.empty, false)
theorem index_lt (s : ByteArray) (i : Nat) (h : Lib.indexByte s.data.toList 0 = (i : Int)) : i < s.size := by
  have := (Lib.indexByte_some h).1
  have h2 := (List.getElem?_eq_some_iff.mp this).1
  rwa [Array.length_toList] at h2
theorem cut_any (s : ByteArray) (w : World) (hsz : s.size ≤ 1000000000) :
    Calls Try.prog 41 #[.string s, .string ⟨#[0]⟩] w fun e w' => e = .returned (.tuple #[.string (cutM s).1, .string (cutM s).2.1, .bool (cutM s).2.2]) ∧ ∃ n, w' = w.drewN n := by
  have hg := Lib.indexByte_ge s.data.toList 0
  unfold cutM
  by_cases h : 0 ≤ Lib.indexByte s.data.toList 0
  · rw [if_pos h]
    have e : Lib.indexByte s.data.toList 0 = ((Lib.indexByte s.data.toList 0).toNat : Int) := by omega
    exact cut_some s _ w e (index_lt s _ e) hsz
  · rw [if_neg h]
    exact cut_none s w (by omega)
theorem scut_any (s : ByteArray) (w : World) (hsz : s.size ≤ 1000000000) :
    Calls Try.prog 35 #[.string s, .string ⟨#[0]⟩] w fun e w' => e = .returned (.tuple #[.string (cutM s).1, .string (cutM s).2.1, .bool (cutM s).2.2]) ∧ ∃ n, w' = w.drewN n := by
  generalize hm : cutM s = m
  have hc := cut_any s w hsz
  rw [hm] at hc
  obtain ⟨m1, m2, m3⟩ := m
  go_enter Try.func35, Try.ntmps35
  go_wp2_with fail
  refine hc.mono ?_
  rintro e w' ⟨rfl, n, rfl⟩
  go_wp2
  refine bodyPost_ret (v := .tuple #[.string m1, .string m2, .bool m3]) ?_ rfl ⟨rfl, _, rfl⟩
  simp [results, Try.results35, go_sem]
def termM (s : ByteArray) : ByteArray × ByteArray × Bool := if (cutM s).2.2 then cutM s else (ByteArray.empty, ByteArray.empty, false)
theorem term_any (s : ByteArray) (w : World) (hsz : s.size ≤ 1000000000) :
    Calls Try.prog 21 #[.string s] w fun e w' => e = .returned (.tuple #[.agg #[.string (termM s).1, .string (termM s).2.1], .bool (termM s).2.2]) ∧ Below w.heap.size w w' := by
  have hc := fun w => scut_any s w hsz
  have ht : termM s = if (cutM s).2.2 then cutM s else (ByteArray.empty, ByteArray.empty, false) := rfl
  generalize cutM s = m at *
  obtain ⟨m1, m2, m3⟩ := m
  rw [ht]
  cases m3 with
  | true =>
    go_enter Try.func21, Try.ntmps21
    go_wp2_with fail
    refine (hc _).mono ?_
    rintro e w' ⟨rfl, n, rfl⟩
    have z3 : (w.alloc (.cells #[.string ⟨#[]⟩, .string ⟨#[]⟩] 39)).cell? ⟨w.heap.size, 0, none⟩ = some (.string ⟨#[]⟩) := by rw [World.cell?_alloc_at _ _ _ _ rfl]; rfl
    have z4 : (w.alloc (.cells #[.string ⟨#[]⟩, .string ⟨#[]⟩] 39)).cell? ⟨w.heap.size, 1, none⟩ = some (.string ⟨#[]⟩) := by rw [World.cell?_alloc_at _ _ _ _ rfl]; rfl
    have hb : Below w.heap.size w ((w.alloc (.cells #[.string ⟨#[]⟩, .string ⟨#[]⟩] 39)).drewN n) := pw_below_drewN ((Below.refl _ w).alloc (Nat.le_refl _) _) n
    go_wp2
    refine bodyPost_ret (v := .tuple #[.agg #[.string m1, .string m2], .bool true]) (by simp [results, Try.results21, go_sem, z3, z4]) rfl ⟨rfl, (hb.setCell (p := ⟨w.heap.size, 0, none⟩) (Nat.le_refl _) _).setCell (p := ⟨w.heap.size, 1, none⟩) (Nat.le_refl _) _⟩
  | false =>
    go_enter Try.func21, Try.ntmps21
    go_wp2_with fail
    refine (hc _).mono ?_
    rintro e w' ⟨rfl, n, rfl⟩
    have z3 : (w.alloc (.cells #[.string ⟨#[]⟩, .string ⟨#[]⟩] 39)).cell? ⟨w.heap.size, 0, none⟩ = some (.string ⟨#[]⟩) := by rw [World.cell?_alloc_at _ _ _ _ rfl]; rfl
    have z4 : (w.alloc (.cells #[.string ⟨#[]⟩, .string ⟨#[]⟩] 39)).cell? ⟨w.heap.size, 1, none⟩ = some (.string ⟨#[]⟩) := by rw [World.cell?_alloc_at _ _ _ _ rfl]; rfl
    have hb : Below w.heap.size w ((w.alloc (.cells #[.string ⟨#[]⟩, .string ⟨#[]⟩] 39)).drewN n) := pw_below_drewN ((Below.refl _ w).alloc (Nat.le_refl _) _) n
    go_wp2
    refine bodyPost_ret (v := .tuple #[.agg #[.string ⟨#[]⟩, .string ⟨#[]⟩], .bool false]) (by simp [results, Try.results21, go_sem, z3, z4]) rfl ⟨rfl, (hb.setCell (p := ⟨w.heap.size, 0, none⟩) (Nat.le_refl _) _).setCell (p := ⟨w.heap.size, 1, none⟩) (Nat.le_refl _) _⟩
def word_Term.f (a0 : ByteArray) : Option (ByteArray × ByteArray × Bool) := if a0.size ≤ 1000000000 then some (termM a0) else none
theorem word_Term.calls (a0 : ByteArray) (r1 : ByteArray) (r2 : ByteArray) (r3 : Bool) (w : World) (h : word_Term.f a0 = some (r1, r2, r3)) :
    Calls Try.prog 21 #[.string a0] w fun e w' => e = .returned (.tuple #[.agg #[.string r1, .string r2], .bool r3]) ∧ Below w.heap.size w w' := by
  unfold word_Term.f at h
  split at h
  · have hh := Option.some.inj h
    have := term_any a0 w (by assumption)
    rw [hh] at this
    exact this
  · cases h
end Go.Proofs.Ytoephmnkenlmiaa
