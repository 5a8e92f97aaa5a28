/- BufferSeals, walked. Condition: none but what every input has. -/
import Derived.Test.YteidebllianiiaaGreatDoorBun1
set_option linter.unusedVariables false
set_option linter.unusedSimpArgs false
namespace Go.Proofs.YteidebllianiiaaGreatDoor
open Go.RowKit Go.Proofs.YteidebllianiiaaGreatDoor.PAll Go.Proofs.YteidebllianiiaaGreatDoorW.PrintWords Go.Proofs.YteidebllianiiaaGreatDoorW.PrintLast Go.Proofs.YteidebllianiiaaGreatDoorW.PrintMore

/-- A row in kept blocks, over what moves none of these. -/
theorem Moves.row {K : Nat → Prop} {W W' : World} (h : Moves (fun k => ¬ K k) W W') {α : Type} {d : Kd α} {e base : Nat} {v : Value} {xs : List α} (hR : Kd.R d e W base K v xs) : Kd.R d e W' base K v xs :=
  Kd.R_step hR (fun k hk hlt => h.block k hlt (fun z => z hk))

theorem made_seq {src : List S31} {start step : Int} {most : Nat} {g : List Ent} (hM : Made src start step most g) (h0 : 0 ≤ start ∧ start ≤ 100 ∧ 0 ≤ step ∧ step ≤ 100) (hl : g.length ≤ 100) (i : Nat) (hi : i < g.length) : g[i].f1 = start + step * (i : Int) ∧ 0 ≤ g[i].f1 ∧ g[i].f1 ≤ 10200 := by
  have h := hM.seq i hi
  have hb : 0 ≤ step * (i : Int) ∧ step * (i : Int) ≤ 100 * 100 := ⟨Int.mul_nonneg h0.2.2.1 (by omega), Int.mul_le_mul h0.2.2.2 (by omega) (by omega) (by omega)⟩
  exact ⟨h, by omega, by omega⟩

/-- The last number behind some entries, each with its number, from a number on. -/
def lastA (start step : Int) (i : Nat) : Int := if i = 0 then -1 else start + step * ((i : Int) - 1)
theorem lastA_lt {start step : Int} (h0 : 0 ≤ start ∧ 1 ≤ step) (i : Nat) : lastA start step i < start + step * (i : Int) := by
  unfold lastA
  split
  · rename_i h; subst h; simp; omega
  · have : step * (i : Int) = step * ((i : Int) - 1) + step := by rw [Int.mul_sub]; omega
    omega
theorem lastA_succ (start step : Int) (i : Nat) : lastA start step (i + 1) = start + step * (i : Int) := by
  unfold lastA
  rw [if_neg (by omega)]
  have : (((i + 1 : Nat) : Int) - 1) = (i : Int) := by omega
  rw [this]
def SealR26.T : Bool × List (List Nat × List Nat) := (true, [([], []), ([], []), ([], []), ([1, 2], [1, 2]), ([0, 3], [0, 3]), ([4, 4], [4]), ([5], [5]), ([6, 5, 5], [5, 6]), ([5], [5]), ([5], [5]), ([8, 9, 5], [5, 8, 9]), ([7, 10, 7, 5], [5, 7, 10]), ([5, 11], [5, 11]), ([12, 11], [12]), ([13, 13], [13]), ([13, 14], [13, 14]), ([15, 14, 0, 1, 2, 3, 4, 5, 6, 7, 8, 9, 10, 11, 12, 13, 14, 15], [15])])
def SealR26.B : List Nat := [0, 0, 0, 6, 15, 31, 63, 127, 63, 63, 831, 2047, 4095, 8191, 16383, 32767, 65535]

end Go.Proofs.YteidebllianiiaaGreatDoor
