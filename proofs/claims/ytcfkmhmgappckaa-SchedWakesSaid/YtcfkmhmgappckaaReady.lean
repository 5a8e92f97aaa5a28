/- The ready ones. No condition but on size. -/
import Derived.Test.YtcfkmhmgappckaaState
import Derived.Maps.AppendAt
import Derived.Lib.OthersKept
import Derived.Lib.Hide
namespace Go.Proofs.Ytcfkmhmgappckaa
open Go.RowKit Go.Proofs.Ytcfkmhmgappckaa.Sc Go.Proofs.Ytcfkmhmgappckaa.PAll Go.Proofs.YtcfkmhmgappckaaW.PrintWords Go.Proofs.YtcfkmhmgappckaaW.PrintLast Go.Proofs.YtcfkmhmgappckaaW.PrintMore

theorem heap_lt {w : World} {b : Nat} {o : Obj} (h : w.heap[b]? = some o) : b < w.heap.size := (Array.getElem?_eq_some_iff.1 h).1
section
variable {w w1 : World} {base g bT bM bR : Nat} {vs us : List (Option Nat × Value)} {S : Sd}
/-- What lies as it lay. -/
theorem IsS.kept (h : IsS w base g bT bM bR vs us S) (hs : ∀ k, k < w.heap.size → w1.heap[k]? = w.heap[k]?) : IsS w1 base g bT bM bR vs us S := by
  have hr : ∀ {t sz : Nat} {ob : Option Nat} {v : Value} {l : List (List Value)}, RowIn w base t sz ob v l → RowIn w1 base t sz ob v l := by
    intro t sz ob v l hR
    refine hR.same (fun b hb => ?_)
    rcases hR.2 with ⟨e, _⟩ | ⟨b2, off, cap, cs, e, _, _, hc, _⟩
    · rw [e] at hb; cases hb
    · rw [e] at hb; cases hb; exact hs _ (heap_lt hc)
  exact ⟨h.ge, (hs _ (heap_lt h.cell)).trans h.cell, h.geT, h.geM, h.geR, (hs _ (heap_lt h.T)).trans h.T, h.lenV, (hs _ (heap_lt h.M)).trans h.M, fun i x v a b => hr (h.rows i x v a b), h.lenU, (hs _ (heap_lt h.R)).trans h.R, fun i x u a b => hr (h.rests i x u a b), h.apart⟩
theorem IsS.below (h : IsS w base g bT bM bR vs us S) (hb : Below w.heap.size w w1) : IsS w1 base g bT bM bR vs us S := h.kept (fun k hk => hb.block k hk)
end
theorem readyF_snoc : ∀ (l : List Int) (x : Int) (k : Nat), readyF (l ++ [x]) k = readyF l k ++ (if x = 0 then [((k + l.length : Nat) : Int)] else [])
  | [], x, k => by simp only [List.nil_append, readyF]; split <;> simp
  | y :: l, x, k => by
    have ih := readyF_snoc l x (k + 1)
    have e : k + 1 + l.length = k + (y :: l).length := by simp; omega
    rw [e] at ih
    simp only [List.cons_append, readyF, ih]
    split <;> simp
def IntsR (base : Nat) (w : World) (v : Value) (l : List Int) : Prop := w.ownsRow base 3 1 v l.length (l.map (Value.int .i64))
theorem infoInt : (Try.prog.info? 3).map (fun i => (i.zero, i.size, i.bytes)) = some (some (.int .i64 0), 1, 8) := by kernel_rfl
set_option maxHeartbeats 1000000 in
set_option maxRecDepth 100000 in
theorem ready_any {w : World} {base g bT bM bR : Nat} {vs us : List (Option Nat × Value)} {S : Sd} (h : IsS w base g bT bM bR vs us S) (hn : S.T.length ≤ 1000) :
    Calls Try.prog 12 #[.pointer (some ⟨g, 0, none⟩)] w fun e w' => ∃ v, e = .returned v ∧ IntsR w.heap.size w' v (ready S) ∧ Below w.heap.size w w' := by
  obtain ⟨i0, hi, hz0, hz1, hz2⟩ := info_parts infoInt
  have d0 := h.c0
  have HS := Lib.hid h
  clear h
  go_enter Try.func12, Try.ntmps12
  go_wp2
  go_loopw [3, 11] (fun v vi wr => ∃ i : Nat, vi = .int .i64 i ∧ i ≤ S.T.length ∧ IntsR w.heap.size wr v (readyF (S.T.take i) 0) ∧ Below w.heap.size w wr) (fun _ vi _ => S.T.length - (intOf vi).toNat)
  case atStart => exact ⟨0, rfl, Nat.zero_le _, World.ownsRow_nil _ _ _ _, Below.refl _ w⟩
  case round =>
    obtain ⟨i, rfl, hi2, hrow, hbw⟩ := hrel
    have hlen : (readyF (S.T.take i) 0).length ≤ 1000 := by
      rw [readyF_len]
      have := List.countP_le_length (p := fun x : Int => decide (x = 0)) (l := S.T.take i)
      rw [List.length_take] at this
      omega
    by_cases hlt : i < S.T.length
    · have hst := readyF_snoc (S.T.take i) S.T[i] 0
      rw [← List.take_succ_eq_append_getElem hlt, List.length_take, Nat.min_eq_left (by omega), Nat.zero_add] at hst
      have d1 := (HS.out.below hbw).cT i hlt
      obtain ⟨x, hx⟩ : ∃ x, S.T[i] = x := ⟨_, rfl⟩
      rw [hx] at hst d1
      have g1 : ((i : Nat) : Int) < (S.T.length : Int) := by omega
      have HST := Lib.hid hst
      clear hst hx
      by_cases h0 : x = 0
      · subst h0
        go_wp2_with (at_builtin; refine wpList_append_own _ rfl _ _ 22 rfl w.heap.size 3 i0 (.int .i64 0) 1 8 Try.underlying22 hi hz0 hz1 hz2 rfl (by decide) _ _ _ rfl (World.ownsRow.alloc hrow _) ⟨wr.heap.size, 0, none⟩ 1 1 [.int .i64 (i : Int)] rfl rfl ?c1 ?c2 ?c3 ?c4 ?c5 ?_)
        case c2 => simp [Value.oneCell']
        case c3 => unfold maxLen; omega
        case c4 => omega
        case c5 => have := hbw.size; omega
        intro v' w1 hown' hgrow _
        have hbw3 : Below w.heap.size w w1 := (hbw.alloc (by have := hbw.size; omega) _).grown hgrow (by simp; have := hbw.size; omega) (fun k hk => (hrow.lt k hk).1)
        clear hrow hbw hgrow
        go_wp2
        go_roundw
        case rel =>
          refine ⟨i + 1, by simp, by omega, ?_, hbw3⟩
          rw [HST.out]
          unfold IntsR
          simpa using hown'
        case measure => simp [intOf]; omega
      · have hne : (x == 0) = false := by simpa using h0
        go_wp2
        go_roundw
        case rel =>
          refine ⟨i + 1, by simp, by omega, ?_, hbw⟩
          rw [HST.out, if_neg h0, List.append_nil]
          exact hrow
        case measure => simp [intOf]; omega
    · go_wp2
      go_ret
      have e : S.T.take i = S.T := List.take_of_length_le (by omega)
      rw [e] at hrow
      exact ⟨_, rfl, hrow, hbw⟩
end Go.Proofs.Ytcfkmhmgappckaa
