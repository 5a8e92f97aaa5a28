/- sign.FoldText: what strings.Map makes of a text. Condition: the two tables of unicode/utf8 lie as they were laid. -/
import Derived.Test.YtllmhgkhamoplaaDoorShelf
import Derived.Test.YtllmhgkhamoplaaDoorRows
import Derived.Test.YtllmhgkhamoplaaDoorSignPlain
import Derived.WalkKit
import Derived.WalkSpells
import Derived.WalkLawsBesides
namespace Go.Proofs.YtllmhgkhamoplaaDoor
open Go.RowKit Go.Lib

def fold (c : Int) : Int := if (65 ≤ c ∧ c ≤ 90) ∨ (192 ≤ c ∧ c ≤ 222 ∧ c ≠ 215) then c + 32 else c
theorem ret_int {k : IntKind} {a b : Int} (h : a = b) : Ending.returned (.int k a) = .returned (.int k b) := by rw [h]
set_option maxHeartbeats 400000 in
theorem fold_any (c : Int) (w : World) :
    Calls Tryd.prog 10 #[.int .i64 c] w fun e w' => e = .returned (.int .i64 (fold c)) ∧ w = w' := by
  by_cases h215 : c = 215
  · subst h215
    go_enter Tryd.func10, Tryd.ntmps10
    go_wp2
    go_ret
    exact ⟨ret_int (by decide), rfl⟩
  · have hb : (c != 215) = true := by simpa using h215
    go_enter Tryd.func10, Tryd.ntmps10
    go_wp2
    all_goals
      go_ret
      exact ⟨ret_int (by unfold fold; split <;> omega), rfl⟩
theorem fold_rune (x : Nat) (h : x ≤ 1114111) : 0 ≤ fold x ∧ fold x ≤ 1114143 := by unfold fold; split <;> omega
set_option maxHeartbeats 400000 in
theorem fold1_any (x : Nat) (hx : x ≤ 1114111) (w : World) :
    Calls Tryd.prog 13 #[.int .i32 (x : Int)] w fun e w' => e = .returned (.int .i32 (fold x)) ∧ ∃ q, w' = w.drewN q := by
  have hf := fold_rune x hx
  go_enter Tryd.func13, Tryd.ntmps13
  go_wp2_with fail
  refine (fold_any _ _).mono ?_
  rintro e w' ⟨rfl, rfl⟩
  obtain ⟨y, hy⟩ : ∃ y, y = fold (x : Int) := ⟨_, rfl⟩
  rw [← hy] at hf ⊢
  go_wp2
  go_ret
  exact ⟨rfl, 0, rfl⟩
theorem fold_map (w : World) : MapAtRunes Tryd.prog 13 #[] fold w := fun W x hx _ => fold1_any x hx W
theorem fold_enters : ∀ args w, (callFunc 13 args).run Tryd.prog w = .ok (.enter 13 args) w := enters_of Tryd.func13 (by kernel_rfl) rfl
def sign_FoldText.f (a0 : ByteArray) : Option (ByteArray) := if a0.size ≤ 1000000 then some ⟨(mapD fold a0.data.toList).toArray⟩ else none
set_option maxHeartbeats 400000 in
theorem sign_FoldText.calls (a0 : ByteArray) (r : ByteArray) (w : World) (hT : Lib.Utf8Tabs 0 1 w) (h : sign_FoldText.f a0 = some r) :
    Calls Tryd.prog 5 #[.string a0] w fun e w' => e = .returned (.string r) ∧ Below w.heap.size w w' := by
  unfold sign_FoldText.f at h
  split at h
  · rename_i hs
    obtain rfl := Option.some.inj h
    go_enter Tryd.func5, Tryd.ntmps5
    go_wp2_with fail
    refine (Tryd.strings_Map_runes 13 #[] fold_enters fold a0 w (by omega) (fold_map w) (fun x hx => ⟨(fold_rune x hx).1, by have := (fold_rune x hx).2; omega⟩) hT).mono ?_
    rintro e w' ⟨rfl, hb⟩
    go_wp2
    go_ret
    exact ⟨rfl, hb⟩
  · cases h
end Go.Proofs.YtllmhgkhamoplaaDoor
