/- Sets of numbers as bits: Clone. No condition but on size. -/
import Derived.Test.YtfoheajcahiceaaDoorNot
namespace Go.Proofs.YtfoheajcahiceaaDoor
open Go.RowKit Go.Proofs.YtfoheajcahiceaaDoor.PAll Go.Proofs.YtfoheajcahiceaaDoorW.PrintWords Go.Proofs.YtfoheajcahiceaaDoorW.PrintLast Go.Proofs.YtfoheajcahiceaaDoorW.PrintMore

theorem words_clone (A : Option Addr) (n c : Nat) (l : List Int) (w : World) (hn : l.length = n) (hr : Kd.C (Kd.int .u64) w A n l) (hl : n ≤ 1000000000000) :
    Calls Tryd.prog 41 #[.slice A n c] w fun e w' => ∃ v, e = .returned v ∧ Kd.R (Kd.int .u64) 57 w' w.heap.size (fun _ => True) v l ∧ Below w.heap.size w w' := by
  have heq := fun w => Lib.run_eql_slice_nil (P := Tryd.prog) w 54 57 A n c 0 0 Tryd.underlying54
  cases A with
  | none =>
    have h0 : n = 0 := by
      rcases Nat.eq_zero_or_pos n with h | h
      · exact h
      · obtain ⟨ad, e, _⟩ := hr.2.2 h; cases e
    have hl0 : l = [] := List.eq_nil_of_length_eq_zero (by omega)
    subst hl0
    clear hn h0
    go_enter Tryd.func41, Tryd.ntmps41
    go_wp2_with fail
    go_ret
    exact ⟨_, rfl, Kd.R_nil _ _ _ _ _, Below.refl _ _⟩
  | some ad =>
    clear hn
    go_enter Tryd.func41, Tryd.ntmps41
    go_wp2_with (at_builtin; refine Kd.R_append_rows (Kd.int .u64) (w0 := w) w.heap.size rfl (.tmp 5) (.tmp 6) 54 57 (.int .u64 0) 8 rfl Tryd.underlying54 infoU64 rfl (by decide) (by decide) _ [] l (some ad) n c (fun _ => True) (fun _ => False) rfl rfl ?c1 ?c2 (fun _ _ h => h) (fun _ h => h.elim) (fun _ _ => trivial) ?c3 ?c4 ?c5 ?_)
    case c1 => exact Kd.R_of_own (World.ownsRow_made w #[] 0 (Nat.le_refl _) (Nat.zero_le _) rfl) (fun _ _ => trivial)
    case c2 => exact Kd.C_below hr ((Below.refl _ w).alloc (Nat.le_refl _) _)
    case c3 => exact (Below.refl _ w).alloc (Nat.le_refl _) _
    case c4 => simp
    case c5 => rw [List.length_nil]; omega
    intro v1 w1 hR hb _ _
    go_wp2
    go_ret
    exact ⟨_, rfl, hR, hb⟩

/-- The two cells of a set, and what lies below. -/
def Two (w0 w : World) (g : Nat) (n : Nat) (v : Value) : Prop :=
  (w.cell? ⟨g, 0, none⟩ = some (.int .i64 (n : Int)) ∧ w.cell? ⟨g, 1, none⟩ = some v) ∧ Below w0.heap.size w0 w
theorem Two.below {w0 w w1 : World} {g n : Nat} {v : Value} (h : (w.cell? ⟨g, 0, none⟩ = some (.int .i64 (n : Int)) ∧ w.cell? ⟨g, 1, none⟩ = some v) ∧ Below w0.heap.size w0 w) (hg : g < w0.heap.size) (hb : Below w.heap.size w w1) : Two w0 w1 g n v :=
  ⟨⟨(hb.cell (p := ⟨g, 0, none⟩) (Nat.lt_of_lt_of_le hg h.2.size)).trans h.1.1, (hb.cell (p := ⟨g, 1, none⟩) (Nat.lt_of_lt_of_le hg h.2.size)).trans h.1.2⟩, h.2.trans (hb.mono h.2.size)⟩
theorem Two.alloc {w0 w : World} {g n : Nat} {v : Value} (h : (w.cell? ⟨g, 0, none⟩ = some (.int .i64 (n : Int)) ∧ w.cell? ⟨g, 1, none⟩ = some v) ∧ Below w0.heap.size w0 w) (hg : g < w0.heap.size) (o : Obj) : ((w.alloc o).cell? ⟨g, 0, none⟩ = some (.int .i64 (n : Int)) ∧ (w.alloc o).cell? ⟨g, 1, none⟩ = some v) ∧ Below w0.heap.size w0 (w.alloc o) :=
  Two.below h hg ((Below.refl _ w).alloc (Nat.le_refl _) o)

set_option maxHeartbeats 1000000 in
set_option maxRecDepth 100000 in
theorem clone_any (base g : Nat) (v : Value) (r : List Bool) (w : World) (hS : IsSet w base g v r) (hl : r.length ≤ 100000) :
    Calls Tryd.prog 24 #[.pointer (some ⟨g, 0, none⟩)] w fun e w' => ∃ g2 v2, e = .returned (.pointer (some ⟨g2, 0, none⟩)) ∧ IsSet w' w.heap.size g2 v2 r ∧ Below w.heap.size w w' := by
  have h0 := hS.c0
  obtain ⟨A, c, rfl, hC⟩ := hS.form
  have hgl := hS.lt
  have h1 := hS.c1
  have hwl := wordsOf_len r
  have hcl : ∀ W, Below w.heap.size w W → Calls Tryd.prog 41 #[.slice A (nW r.length) c] W fun e w' => ∃ v, e = .returned v ∧ Kd.R (Kd.int .u64) 57 w' W.heap.size (fun _ => True) v (wordsOf r) ∧ Below W.heap.size W w' :=
    fun W hW => words_clone A _ c (wordsOf r) W hwl (Kd.C_below hC hW) (by unfold nW; omega)
  have hB0 := Lib.hid ((Below.refl w.heap.size w).drew)
  have HC := Lib.hid hcl
  clear hcl hC hS hl
  generalize nW r.length = q at *
  have HW := Lib.hid hwl
  clear hwl
  go_enter Tryd.func24, Tryd.ntmps24
  go_wp2_with fail
  go_region_held3 (fun W => (W.cell? ⟨g, 0, none⟩ = some (.int .i64 (r.length : Int)) ∧ W.cell? ⟨g, 1, none⟩ = some (.slice A q c)) ∧ Below w.heap.size w W) (first | assumption | exact ⟨⟨h0, h1⟩, hB0.out⟩ | exact Two.alloc (by assumption) hgl _ | go_keep)
    (first | (go_at_call 41; (with_reducible refine Calls.mono (HC.out _ (And.right (by assumption))) ?_); rintro e w1 ⟨v1, rfl, hR, hb⟩; obtain ⟨A1, c1, rfl⟩ := Kd.R_slice hR; have ht := Two.below (by assumption) hgl hb; unfold Two at ht))
  all_goals
    go_wp2_with fail
    go_ret
    have hb2 : Below w.heap.size w w1 := ht.2
    rw [wordsOf_len] at hR
    exact ⟨w1.heap.size, _, rfl, ⟨by rw [wordsOf_len]; exact World.alloc_heap_new w1 _, hb2.size, Kd.R_alloc hR _⟩, hb2.alloc hb2.size _⟩
end Go.Proofs.YtfoheajcahiceaaDoor
