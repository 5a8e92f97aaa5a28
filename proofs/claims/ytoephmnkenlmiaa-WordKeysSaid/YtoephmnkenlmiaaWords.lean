import Derived.Test.YtoephmnkenlmiaaRows
import Derived.Test.YtoephmnkenlmiaaKinds
import Derived.Test.YtoephmnkenlmiaaText
import Derived.Test.YtoephmnkenlmiaaSignsE
import Derived.RangeFuncBox
import Derived.Maps.AppendAt
import Derived.Deep.RegionHeld3
import Derived.WalkSpells
import Derived.WalkLawsBesides
/-! word.Words: a text's words. -/
namespace Go.Proofs.Ytoephmnkenlmiaa
open Go.RowKit Go.Proofs.YtoephmnkenlmiaaW.PrintWords Go.Proofs.YtoephmnkenlmiaaW.PrintLast Go.Proofs.YtoephmnkenlmiaaW.PrintMore

theorem infoStr : (Try.prog.info? 9).map (fun i => (i.zero, i.size, i.bytes)) = some (some (.string ⟨#[]⟩), 1, 16) := by kernel_rfl

def strOf (l : List Int) : ByteArray := ⟨(text l).toArray⟩
def inB (c : Int) : Bool := letterB c || digitB c
/-- One character more: the words that are whole, and the one that is not. -/
def stepW (st : List ByteArray × List Int) (c : Int) : List ByteArray × List Int :=
  if inB c then (st.1, st.2 ++ [fold c]) else (if 0 < st.2.length then st.1 ++ [strOf st.2] else st.1, [])

/-- The two boxes: the words, and the characters of the last one. -/
def TakeSt (base Bo Bw : Nat) (st : List ByteArray × List Int) (w : World) : Prop :=
  ∃ vo vw, Boxed w Bo 23 vo ∧ Boxed w Bw 45 vw ∧ Kd.R Kd.string 9 w base (fun _ => True) vo st.1 ∧ Kd.R (Kd.int .i64) 3 w base (fun _ => True) vw st.2

theorem rows_apart {α β : Type} {d : Kd α} {d2 : Kd β} {w : World} {base e f : Nat} {v u : Value} {xs : List α} {ys : List β} {ok ok2 : Nat → Prop} (h : d.R e w base ok v xs) (h2 : d2.R f w base ok2 u ys) (hne : e ≠ f) : ∀ k, u.ownBlock = some k → some k ≠ v.ownBlock := by
  obtain ⟨i1, h1⟩ := Kd.R_own h
  obtain ⟨i2, h3⟩ := Kd.R_own h2
  intro k hk hv
  rcases h1.2 with ⟨rfl, _⟩ | ⟨g, cap, cur, rfl, _, hgb, _⟩
  · simp [Value.ownBlock] at hv
  · rcases h3.2 with ⟨rfl, _⟩ | ⟨g2, cap2, cur2, rfl, _, hgb2, _⟩
    · simp [Value.ownBlock] at hk
    · have e1 : g = k := by simpa [Value.ownBlock] using hv.symm
      have e2 : g2 = k := by simpa [Value.ownBlock] using hk
      subst e1; subst e2
      rw [hgb] at hgb2
      simp at hgb2
      exact hne hgb2.2

/-- Whatever lies below N stays, one box apart. -/
def Keep1 (N B : Nat) (w w' : World) : Prop := Below 0 w w' ∧ ∀ k, k < N → k ≠ B → w'.heap[k]? = w.heap[k]?
/-- Whatever lies below N stays, the two boxes apart. -/
def Keep2 (N Bo Bw : Nat) (w w' : World) : Prop := Below 0 w w' ∧ ∀ k, k < N → k ≠ Bo → k ≠ Bw → w'.heap[k]? = w.heap[k]?
theorem Keep1.store {N B : Nat} {w w' : World} (h : Below N w w') (v : Value) : Keep1 N B w (w'.setCell ⟨B, 0, none⟩ v) :=
  ⟨(h.mono (Nat.zero_le _)).setCell (p := ⟨B, 0, none⟩) (Nat.zero_le _) v, fun k hk hB => (Below.heap_setCell w' ⟨B, 0, none⟩ v k hB).trans (h.block k hk)⟩
theorem Keep2.store {N B Bo Bw : Nat} {w w' : World} (h : Keep2 N Bo Bw w w') (v : Value) (hB : B = Bo ∨ B = Bw) : Keep2 N Bo Bw w (w'.setCell ⟨B, 0, none⟩ v) :=
  ⟨h.1.setCell (p := ⟨B, 0, none⟩) (Nat.zero_le _) v, fun k hk h1 h2 => (Below.heap_setCell w' ⟨B, 0, none⟩ v k (by rcases hB with rfl | rfl <;> assumption)).trans (h.2 k hk h1 h2)⟩
theorem Keep2.refl (N Bo Bw : Nat) (w : World) : Keep2 N Bo Bw w w := ⟨Below.refl _ _, fun _ _ _ _ => rfl⟩
theorem Keep2.trans {N Bo Bw : Nat} {w w' w2 : World} (h : Keep2 N Bo Bw w w') (k : Keep2 N Bo Bw w' w2) : Keep2 N Bo Bw w w2 := ⟨h.1.trans k.1, fun j a b c => (k.2 j a b c).trans (h.2 j a b c)⟩
theorem Keep2.of_below {N Bo Bw : Nat} {w w' : World} (h : Below N w w') : Keep2 N Bo Bw w w' := ⟨h.mono (Nat.zero_le _), fun k hk _ _ => h.block k hk⟩

/-- Behind an append to one row, and the store into its box. -/
theorem box_stored {α β : Type} {d : Kd α} {d2 : Kd β} {w W w1 : World} {base e f B B2 t t2 : Nat} {v u v1 : Value} {xs xs1 : List α} {ys : List β} (hE : d.E = []) (hE2 : d2.E = [])
    (hB : Boxed W B t v) (hB2 : Boxed W B2 t2 u) (hR : d.R e W base (fun _ => True) v xs) (hR2 : d2.R f W base (fun _ => True) u ys) (hne : f ≠ e) (h1 : e ≠ t) (h2 : e ≠ t2) (h3 : f ≠ t) (hBB : B2 ≠ B)
    (hR1 : d.R e w1 base (fun _ => True) v1 xs1) (hb1 : Below base w w1) (hg : W.grownBy w1 v.ownBlock) :
    Boxed w1 B t v ∧ Boxed (w1.setCell ⟨B, 0, none⟩ v1) B t v1 ∧ Boxed (w1.setCell ⟨B, 0, none⟩ v1) B2 t2 u ∧ d.R e (w1.setCell ⟨B, 0, none⟩ v1) base (fun _ => True) v1 xs1 ∧ d2.R f (w1.setCell ⟨B, 0, none⟩ v1) base (fun _ => True) u ys ∧ Keep1 base B w (w1.setCell ⟨B, 0, none⟩ v1) := by
  have k1 : Boxed w1 B t v := hB.kept hg (Kd.R_ne hR hB h1)
  have k2 : Boxed w1 B2 t2 u := hB2.kept hg (Kd.R_ne hR hB2 h2)
  have k3 : d2.R f w1 base (fun _ => True) u ys := Kd.R_grown2 hR2 hE2 hg (rows_apart hR2 hR hne)
  refine ⟨k1, k1.set v1, k2.kept (grownBy_setCell' w1 B v1) (fun e' => hBB (Option.some.inj e')), ?_, ?_, Keep1.store hb1 v1⟩
  · exact Kd.R_grown1 hR1 hE (grownBy_setCell' w1 B v1) (Kd.R_ne hR1 k1 h1)
  · exact Kd.R_grown1 k3 hE2 (grownBy_setCell' w1 B v1) (Kd.R_ne k3 k1 h3)

set_option maxHeartbeats 1000000 in
set_option maxRecDepth 100000 in
theorem take_in (base Bo Bw : Nat) (c : Int) (st : List ByteArray × List Int) (w : World) (hs : TakeSt base Bo Bw st w) (hb : base ≤ w.heap.size) (hl : st.2.length ≤ 1000000000000) (hc : inB c = true) :
    Calls Try.prog 25 #[.int .i64 c, .pointer (some ⟨Bw, 0, none⟩), .pointer (some ⟨Bo, 0, none⟩)] w fun e w' => e = .returned (.tuple #[]) ∧ TakeSt base Bo Bw (stepW st c) w' ∧ Keep2 base Bo Bw w w' := by
  obtain ⟨vo, vw, hBo, hBw, hro, hrw⟩ := hs
  have hst : stepW st c = (st.1, st.2 ++ [fold c]) := by unfold stepW; rw [if_pos hc]
  rw [hst]
  have hBB : Bo ≠ Bw := by
    intro e
    subst e
    have h2 := (show w.heap[Bo]? = _ from hBo).symm.trans (show w.heap[Bo]? = _ from hBw)
    simp at h2
  have hc1 := hBw.cell
  have hor : letterB c = true ∨ (letterB c = false ∧ digitB c = true) := by
    unfold inB at hc
    cases h : letterB c
    · rw [h] at hc; exact .inr ⟨rfl, by simpa using hc⟩
    · exact .inl rfl
  obtain ⟨A1, n1, rfl⟩ := Kd.R_slice hrw
  have hbW : Below base w (w.alloc (.cells #[.int .i64 (fold c)] 3)).drew := ((Below.refl base w).alloc hb _).drew
  have hroW : Kd.R Kd.string 9 (w.alloc (.cells #[.int .i64 (fold c)] 3)).drew base (fun _ => True) vo st.1 := Kd.R_below hro (((Below.refl w.heap.size w).alloc (Nat.le_refl _) _).drew)
  have hrwW : Kd.R (Kd.int .i64) 3 (w.alloc (.cells #[.int .i64 (fold c)] 3)).drew base (fun _ => True) (.slice A1 st.2.length n1) st.2 := Kd.R_below hrw (((Below.refl w.heap.size w).alloc (Nat.le_refl _) _).drew)
  have hBoW : Boxed (w.alloc (.cells #[.int .i64 (fold c)] 3)).drew Bo 23 vo := Boxed.alloc hBo _
  have hBwW : Boxed (w.alloc (.cells #[.int .i64 (fold c)] 3)).drew Bw 45 (.slice A1 st.2.length n1) := Boxed.alloc hBw _
  have hone : Kd.C (Kd.int .i64) (w.alloc (.cells #[.int .i64 (fold c)] 3)).drew (some ⟨w.heap.size, 0, none⟩) 1 [fold c] :=
    Kd.C_of_reads (d := 0) ⟨rfl, by decide, fun _ => ⟨_, rfl, fun j hj => by
      obtain rfl : j = 0 := by omega
      show (w.alloc _).cell? ⟨w.heap.size, 0, none⟩ = _
      rw [World.cell?_alloc_at _ _ _ _ rfl]; rfl⟩⟩
  have hcW := hBwW.cell
  have hbd : (st.2.length + 1) * 8 ≤ 140737488355328 := by omega
  have hsz := Nat.le_trans hb hbW.size
  rcases hor with hL | ⟨hL, hD⟩
  all_goals
    go_enter Try.func25, Try.ntmps25
    go_wp2_with fail
    refine (letter_any c w).mono ?_
    rintro e w1 ⟨rfl, rfl⟩
    go_wp2_with fail
    try (refine (digit_any c w).mono ?_; rintro e w1 ⟨rfl, rfl⟩; go_wp2_with fail)
    go_region_law (first | (go_simp; go_at_call 28; refine (fold_any c _).mono ?_; rintro e w1 ⟨rfl, rfl⟩) | (refine Kd.R_append_rows_step (Kd.int .i64) (w0 := w) base (by rfl) (.tmp 10) (.tmp 13) 45 3 (.int .i64 0) 8 rfl Try.underlying45 infoInt rfl (by decide) (by decide) _ st.2 [fold c] (some ⟨w.heap.size, 0, none⟩) 1 1 (fun _ => True) (fun _ => False) rfl rfl hrwW hone (fun _ _ h => h) (fun _ h => h.elim) (fun _ _ => trivial) hbW hsz hbd ?_; intro v1 w1 hR1 hb1 hg1 _; obtain ⟨k1, k2, k3, k4, k5, k6⟩ := box_stored rfl rfl hBwW hBoW hrwW hroW (by decide) (by decide) (by decide) (by decide) hBB hR1 hb1 hg1; have hcx := k1.cell; have hfx := k1.frozen; obtain ⟨A2, n2, rfl⟩ := Kd.R_slice hR1))
  all_goals
    simp only [List.length_append, List.length_cons, List.length_nil, Nat.zero_add] at k2 k3 k4 k5 k6
    go_wp2
    refine bodyPost_ret (v := .tuple #[]) (by simp [results, Try.results25, go_sem]) rfl ⟨rfl, ⟨_, _, k3, k2, k5, k4⟩, k6.1, fun k hk _ h2 => k6.2 k hk h2⟩

/-- A character that is of no word, and there is none: nothing turns. -/
theorem take_out0 (base Bo Bw : Nat) (c : Int) (outs : List ByteArray) (w : World) (hs : TakeSt base Bo Bw (outs, []) w) (hc : inB c = false) :
    Calls Try.prog 25 #[.int .i64 c, .pointer (some ⟨Bw, 0, none⟩), .pointer (some ⟨Bo, 0, none⟩)] w fun e w' => e = .returned (.tuple #[]) ∧ TakeSt base Bo Bw (outs, []) w' ∧ Keep2 base Bo Bw w w' := by
  obtain ⟨vo, vw, hBo, hBw, hro, hrw⟩ := hs
  have hBB : Bo ≠ Bw := by
    intro e
    subst e
    have h2 := (show w.heap[Bo]? = _ from hBo).symm.trans (show w.heap[Bo]? = _ from hBw)
    simp at h2
  obtain ⟨A1, n1, rfl⟩ := Kd.R_slice hrw
  have hc1 := hBw.cell
  have hf1 := hBw.frozen
  have hL : letterB c = false := by unfold inB at hc; simpa using (Bool.or_eq_false_iff.mp hc).1
  have hD : digitB c = false := by unfold inB at hc; simpa using (Bool.or_eq_false_iff.mp hc).2
  go_enter Try.func25, Try.ntmps25
  go_wp2_with fail
  refine (letter_any c w).mono ?_
  rintro e w1 ⟨rfl, rfl⟩
  go_wp2_with fail
  refine (digit_any c w).mono ?_
  rintro e w1 ⟨rfl, rfl⟩
  go_wp2_with fail
  go_end0
  exact ⟨rfl, ⟨_, _, hBo.kept (grownBy_setCell' w Bw _) (fun e => hBB (Option.some.inj e)), hBw.set _, Kd.R_grown1 hro rfl (grownBy_setCell' w Bw _) (Kd.R_ne hro hBw (by decide)), Kd.R_nil _ _ _ _ _⟩, (Keep2.refl base Bo Bw w).store _ (.inr rfl)⟩

theorem boxed_below {w w' : World} {B t : Nat} {v : Value} (h : Boxed w B t v) (hb : Below w.heap.size w w') : Boxed w' B t v := (hb.block B h.lt).trans h

/-- What the walk wants behind sign.Text. -/
theorem text_facts (base Bo Bw : Nat) (s : ByteArray) (outs : List ByteArray) (own : List Int) (vo vw : Value) (w w3 : World) (hb : base ≤ w.heap.size) (hBo : Boxed w Bo 23 vo) (hBw : Boxed w Bw 45 vw) (hro : Kd.R Kd.string 9 w base (fun _ => True) vo outs) (hrw : Kd.R (Kd.int .i64) 3 w base (fun _ => True) vw own)
    (hb3 : Below w.drew.heap.size w.drew w3) :
    w3.cell? ⟨Bo, 0, none⟩ = some vo ∧ w3.cell? ⟨Bw, 0, none⟩ = some vw ∧ (w3.alloc (.cells #[.string s] 9)).cell? ⟨Bo, 0, none⟩ = some vo ∧ Boxed (w3.alloc (.cells #[.string s] 9)) Bo 23 vo ∧ Boxed (w3.alloc (.cells #[.string s] 9)) Bw 45 vw ∧
    Kd.R Kd.string 9 (w3.alloc (.cells #[.string s] 9)) base (fun _ => True) vo outs ∧ Kd.R (Kd.int .i64) 3 (w3.alloc (.cells #[.string s] 9)) base (fun _ => True) vw own ∧ Below base w (w3.alloc (.cells #[.string s] 9)) ∧ base ≤ (w3.alloc (.cells #[.string s] 9)).heap.size ∧
    Kd.C Kd.string (w3.alloc (.cells #[.string s] 9)) (some ⟨w3.heap.size, 0, none⟩) 1 [s] := by
  have hb4 : Below w.heap.size w w3 := (Below.refl w.heap.size w).drew.trans hb3
  have x1 := boxed_below hBo hb4
  have x2 := boxed_below hBw hb4
  have hb5 : Below base w w3 := hb4.mono hb
  have y : Below w3.heap.size w3 (w3.alloc (.cells #[.string s] 9)) := (Below.refl _ w3).alloc (Nat.le_refl _) _
  have hb6 := hb5.alloc (Nat.le_trans hb hb4.size) (.cells #[.string s] 9)
  refine ⟨x1.cell, x2.cell, (x1.alloc _).cell, x1.alloc _, x2.alloc _, Kd.R_below (Kd.R_below hro hb4) y, Kd.R_below (Kd.R_below hrw hb4) y, hb6, Nat.le_trans hb hb6.size, ?_⟩
  refine Kd.C_of_reads (d := ByteArray.empty) ⟨rfl, by decide, fun _ => ⟨_, rfl, fun j hj => ?_⟩⟩
  obtain rfl : j = 0 := by omega
  show (w3.alloc _).cell? ⟨w3.heap.size, 0, none⟩ = _
  rw [World.cell?_alloc_at _ _ _ _ rfl]; rfl

set_option maxHeartbeats 1000000 in
set_option maxRecDepth 100000 in
theorem take_out1 (base Bo Bw : Nat) (c : Int) (outs : List ByteArray) (own : List Int) (w : World) (hs : TakeSt base Bo Bw (outs, own) w) (hb : base ≤ w.heap.size) (hl : own.length ≤ 1000000000000) (hl0 : 0 < own.length) (ho : outs.length ≤ 1000000000000) (hc : inB c = false) :
    Calls Try.prog 25 #[.int .i64 c, .pointer (some ⟨Bw, 0, none⟩), .pointer (some ⟨Bo, 0, none⟩)] w fun e w' => e = .returned (.tuple #[]) ∧ TakeSt base Bo Bw (outs ++ [strOf own], []) w' ∧ Keep2 base Bo Bw w w' := by
  obtain ⟨vo, vw, hBo, hBw, hro, hrw⟩ := hs
  have hBB : Bw ≠ Bo := by
    intro e
    subst e
    have h2 := (show w.heap[Bw]? = _ from hBo).symm.trans (show w.heap[Bw]? = _ from hBw)
    simp at h2
  obtain ⟨A1, n1, rfl⟩ := Kd.R_slice hrw
  obtain ⟨A0, n0, rfl⟩ := Kd.R_slice hro
  have hc1 := hBw.cell
  have hc2 := hBo.cell
  have hL : letterB c = false := by unfold inB at hc; simpa using (Bool.or_eq_false_iff.mp hc).1
  have hD : digitB c = false := by unfold inB at hc; simpa using (Bool.or_eq_false_iff.mp hc).2
  have hpos : (0 : Int) < (own.length : Int) := by omega
  go_enter Try.func25, Try.ntmps25
  go_wp2_with fail
  refine (letter_any c w).mono ?_
  rintro e w1 ⟨rfl, rfl⟩
  go_wp2_with fail
  refine (digit_any c w).mono ?_
  rintro e w1 ⟨rfl, rfl⟩
  go_wp2_with fail
  have hrd := Kd.C_drew (Kd.R_reads' hrw).2.2
  have hbd : (outs.length + 1) * 16 ≤ 140737488355328 := by omega
  have hcd1 : w.drew.cell? ⟨Bw, 0, none⟩ = some (.slice A1 own.length n1) := hc1
  have hcd2 : w.drew.cell? ⟨Bo, 0, none⟩ = some (.slice A0 outs.length n0) := hc2
  have hstr : (⟨(text own).toArray⟩ : ByteArray) = strOf own := rfl
  go_region_law (first | (go_simp; go_at_call 29; refine (text_any A1 n1 own _ hrd hl).mono ?_; rintro e w3 ⟨rfl, hb3⟩; rw [hstr]; obtain ⟨y1, y2, y3, y4, y5, y6, y7, y8, y9, y10⟩ := text_facts base Bo Bw (strOf own) outs own _ _ w w3 hb hBo hBw hro hrw hb3) | (refine Kd.R_append_rows_step Kd.string (w0 := w) base (by rfl) (.tmp 18) (.tmp 21) 23 9 (.string ⟨#[]⟩) 16 rfl Try.underlying23 infoStr rfl (by decide) (by decide) _ outs [strOf own] (some ⟨_, 0, none⟩) 1 1 (fun _ => True) (fun _ => False) rfl rfl y6 y10 (fun _ _ h => h) (fun _ h => h.elim) (fun _ _ => trivial) y8 y9 hbd ?_; intro v1 w1 hR1 hb1 hg1 _; obtain ⟨k1, k2, k3, k4, k5, k6⟩ := box_stored rfl rfl y4 y5 y6 y7 (by decide) (by decide) (by decide) (by decide) hBB hR1 hb1 hg1; have hcx := k1.cell; have hfx := k1.frozen; obtain ⟨A2, n2, rfl⟩ := Kd.R_slice hR1))
  all_goals
    simp only [List.length_append, List.length_cons, List.length_nil, Nat.zero_add] at k2 k3 k4 k5 k6
    have z1 := k3.cell
    have z2 := k3.frozen
    go_wp2
    go_end0
    exact ⟨rfl, ⟨_, _, k2.kept (grownBy_setCell' _ Bw _) (fun e => hBB (Option.some.inj e).symm), k3.set _, Kd.R_grown1 k4 rfl (grownBy_setCell' _ Bw _) (Kd.R_ne k4 k3 (by decide)), Kd.R_nil _ _ _ _ _⟩, Keep2.store ⟨k6.1, fun k hk h1 _ => k6.2 k hk h1⟩ _ (.inr rfl)⟩

theorem take_any (base Bo Bw : Nat) (c : Int) (st : List ByteArray × List Int) (w : World) (hs : TakeSt base Bo Bw st w) (hb : base ≤ w.heap.size) (hl : st.2.length ≤ 1000000000000) (ho : st.1.length ≤ 1000000000000) :
    Calls Try.prog 25 #[.int .i64 c, .pointer (some ⟨Bw, 0, none⟩), .pointer (some ⟨Bo, 0, none⟩)] w fun e w' => e = .returned (.tuple #[]) ∧ TakeSt base Bo Bw (stepW st c) w' ∧ Keep2 base Bo Bw w w' := by
  cases hc : inB c with
  | true => exact take_in base Bo Bw c st w hs hb hl hc
  | false =>
    obtain ⟨outs, own⟩ := st
    have e : stepW (outs, own) c = (if 0 < own.length then outs ++ [strOf own] else outs, []) := by unfold stepW; rw [hc]; rfl
    rw [e]
    by_cases h0 : 0 < own.length
    · rw [if_pos h0]
      exact take_out1 base Bo Bw c outs own w hs hb hl h0 ho hc
    · obtain rfl : own = [] := List.eq_nil_of_length_eq_zero (by omega)
      rw [if_neg h0]
      exact take_out0 base Bo Bw c outs w hs hc
end Go.Proofs.Ytoephmnkenlmiaa
