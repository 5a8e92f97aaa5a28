/- BufferSeals, walked. Condition: none but what every input has. -/
import Derived.Test.YteidebllianiiaaGreatDoorBun1
set_option linter.unusedVariables false
set_option linter.unusedSimpArgs false
namespace Go.Proofs.YteidebllianiiaaGreatDoor
open Go.RowKit Go.Proofs.YteidebllianiiaaGreatDoor.PAll Go.Proofs.YteidebllianiiaaGreatDoorW.PrintWords Go.Proofs.YteidebllianiiaaGreatDoorW.PrintLast Go.Proofs.YteidebllianiiaaGreatDoorW.PrintMore

theorem add_made {K : Nat → Prop} {b : Nat} {X : List Ent} {last : Int} {W : World} {n : Nat} {c : Nat} {A : Option Addr} {g : List Ent} (hB : Buf K b X last W) (hG : Kd.R k33 33 W 0 K (.slice A n c) g) (hf : ∀ e ∈ g, Fit9 e) (i : Nat) (hi : i < g.length) (hX : X.length < 1000)
    (hq : -9223372036854775808 ≤ g[i].f1 ∧ g[i].f1 ≤ 9223372036854775807) :
    ∃ (ad : Addr) (A1 : Option Addr) (c1 : Nat), A = some ad ∧ W.cell? (ad.add (i * 3)) = some (.int .i64 g[i].f0.f0) ∧ W.cell? ⟨(ad.add (i * 3)).block, (ad.add (i * 3)).off + 1, none⟩ = some (.slice A1 g[i].f0.f1.length c1) ∧ W.cell? ⟨(ad.add (i * 3)).block, (ad.add (i * 3)).off + 2, none⟩ = some (.int .i64 g[i].f1) ∧
      ∀ R, addB X last g[i] 0 = R → Calls Tryz.prog 9 #[.pointer (some ⟨b, 0, none⟩), .agg #[.int .i64 g[i].f0.f0, .slice A1 g[i].f0.f1.length c1, .int .i64 g[i].f1]] W fun e w' => e = .returned (.int .i64 R.1) ∧ Buf K b R.2.1 R.2.2 w' ∧ Moves (fun k => ¬ K k) W w' := by
  obtain ⟨ad, A1, c1, e, k0, k1, k2, k3⟩ := ent_at hG i hi
  refine ⟨ad, A1, c1, e, k0, k1, k2, fun R hR => ?_⟩
  have hfi := hf _ (List.getElem_mem hi)
  have hF := Kd.R_F k3
  exact add_any K b X last g[i].f0.f0 g[i].f1 A1 c1 g[i].f0.f1 W hB hF (Kd.R_reads' k3).2.1 hfi.short.docOk (fun f hf => by have := (hfi.short.2 f hf).1; omega) (fun _ => hfi.okE) hX hq R (by rw [hfi.may]; exact hR)
/-- A row in kept blocks, over what moves none of these. -/
theorem Moves.row {K : Nat → Prop} {W W' : World} (h : Moves (fun k => ¬ K k) W W') {α : Type} {d : Kd α} {e base : Nat} {v : Value} {xs : List α} (hR : Kd.R d e W base K v xs) : Kd.R d e W' base K v xs :=
  Kd.R_step hR (fun k hk hlt => h.block k hlt (fun z => z hk))

theorem made_seq {src : List S31} {start step : Int} {most : Nat} {g : List Ent} (hM : Made src start step most g) (h0 : 0 ≤ start ∧ start ≤ 100 ∧ 0 ≤ step ∧ step ≤ 100) (hl : g.length ≤ 100) (i : Nat) (hi : i < g.length) : g[i].f1 = start + step * (i : Int) ∧ 0 ≤ g[i].f1 ∧ g[i].f1 ≤ 10200 := by
  have h := hM.seq i hi
  have hb : 0 ≤ step * (i : Int) ∧ step * (i : Int) ≤ 100 * 100 := ⟨Int.mul_nonneg h0.2.2.1 (by omega), Int.mul_le_mul h0.2.2.2 (by omega) (by omega) (by omega)⟩
  exact ⟨h, by omega, by omega⟩
/-- An entry that is taken. -/
theorem add_ok {K : Nat → Prop} {b : Nat} {X : List Ent} {last : Int} {W : World} {n : Nat} {c : Nat} {A : Option Addr} {g : List Ent} (hB : Buf K b X last W) (hG : Kd.R k33 33 W 0 K (.slice A n c) g) (hf : ∀ e ∈ g, Fit9 e) (i : Nat) (hi : i < g.length) (hX : X.length < 1000)
    (hq : 0 ≤ g[i].f1 ∧ g[i].f1 ≤ 10200) (hlt : last < g[i].f1) :
    ∃ (ad : Addr) (A1 : Option Addr) (c1 : Nat), A = some ad ∧ W.cell? (ad.add (i * 3)) = some (.int .i64 g[i].f0.f0) ∧ W.cell? ⟨(ad.add (i * 3)).block, (ad.add (i * 3)).off + 1, none⟩ = some (.slice A1 g[i].f0.f1.length c1) ∧ W.cell? ⟨(ad.add (i * 3)).block, (ad.add (i * 3)).off + 2, none⟩ = some (.int .i64 g[i].f1) ∧
      Calls Tryz.prog 9 #[.pointer (some ⟨b, 0, none⟩), .agg #[.int .i64 g[i].f0.f0, .slice A1 g[i].f0.f1.length c1, .int .i64 g[i].f1]] W fun e w' => e = .returned (.int .i64 0) ∧ Buf K b (X ++ [g[i]]) g[i].f1 w' ∧ Moves (fun k => ¬ K k) W w' := by
  obtain ⟨ad, A1, c1, e, k0, k1, k2, h⟩ := add_made hB hG hf i hi hX (by omega)
  exact ⟨ad, A1, c1, e, k0, k1, k2, h (0, X ++ [g[i]], g[i].f1) (by unfold addB; rw [if_pos rfl, if_neg (by omega)])⟩

/-- The last number behind some entries, each with its number, from a number on. -/
def lastA (start step : Int) (i : Nat) : Int := if i = 0 then -1 else start + step * ((i : Int) - 1)
theorem lastA_lt {start step : Int} (h0 : 0 ≤ start ∧ 1 ≤ step) (i : Nat) : lastA start step i < start + step * (i : Int) := by
  unfold lastA
  split
  · rename_i h; subst h; simp; omega
  · have : step * (i : Int) = step * ((i : Int) - 1) + step := by rw [Int.mul_sub]; omega
    omega
theorem lastA_succ (start step : Int) (i : Nat) : lastA start step (i + 1) = start + step * (i : Int) := by
  unfold lastA
  rw [if_neg (by omega)]
  have : (((i + 1 : Nat) : Int) - 1) = (i : Int) := by omega
  rw [this]
def SealR26.T : Bool × List (List Nat × List Nat) := (true, [([], []), ([], []), ([], []), ([1, 2], [1, 2]), ([0, 3], [0, 3]), ([4, 4], [4]), ([5], [5]), ([6, 5, 5], [5, 6]), ([5], [5]), ([5], [5]), ([8, 9, 5], [5, 8, 9]), ([7, 10, 7, 5], [5, 7, 10]), ([5, 11], [5, 11]), ([12, 11], [12]), ([13, 13], [13]), ([13, 14], [13, 14]), ([15, 14, 0, 1, 2, 3, 4, 5, 6, 7, 8, 9, 10, 11, 12, 13, 14, 15], [15])])
def SealR26.B : List Nat := [0, 0, 0, 6, 15, 31, 63, 127, 63, 63, 831, 2047, 4095, 8191, 16383, 32767, 65535]

end Go.Proofs.YteidebllianiiaaGreatDoor
