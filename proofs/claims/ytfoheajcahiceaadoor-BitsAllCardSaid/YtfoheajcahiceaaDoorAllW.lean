/- BitsAll: the walk. Condition: the library's table is as its initialiser lays it. -/
import Derived.Test.YtfoheajcahiceaaDoorNot
namespace Go.Proofs.YtfoheajcahiceaaDoor
open Go.RowKit Go.Shelf Go.Proofs.YtfoheajcahiceaaDoor.PAll Go.Proofs.YtfoheajcahiceaaDoorW.PrintWords Go.Proofs.YtfoheajcahiceaaDoorW.PrintLast Go.Proofs.YtfoheajcahiceaaDoorW.PrintMore
attribute [local go_sem] Oper.semAt_some

section
variable {P : Program} (w : World)
theorem run_equalIn_func (d : Nat) (t : TypeId) {ps rs : Array TypeId} {v : Bool} (f : Fn) (a b : Array Value) (h : P.underlying t = some (.func ps rs v)) : (Op.equalIn (d + 1) t (.func f a b) .nilFunc).run P w = .ok false w := by
  simp [Op.equalIn, run_underlying h]
theorem run_equal_func (t : TypeId) {ps rs : Array TypeId} {v : Bool} (f : Fn) (a b : Array Value) (h : P.underlying t = some (.func ps rs v)) : (Op.equal t (.func f a b) .nilFunc).run P w = .ok false w := run_equalIn_func w 9999 t f a b h
theorem run_eql_func_nil (t : TypeId) {ps rs : Array TypeId} {v : Bool} (f : Fn) (a b : Array Value) (h : P.underlying t = some (.func ps rs v)) : (binOp .eql t (.func f a b) .nilFunc).run P w = .ok (.bool false) w := by
  simp only [binOp]
  simp [run_equal_func w t f a b h]
end
@[go_sem] theorem eql_iter_nil (w : World) (f : Fn) (a b : Array Value) : (binOp .eql 39 (.func f a b) .nilFunc).run Tryd.prog w = .ok (.bool false) w := run_eql_func_nil w _ f a b Tryd.underlying39

theorem insN_prefix (r : List Bool) (a : Nat) : ∀ b, a ≤ b → ∃ t, insN r b = insN r a ++ t
  | 0, h => ⟨[], by rw [show a = 0 by omega]; simp⟩
  | b + 1, h => by
    by_cases hab : a = b + 1
    · exact ⟨[], by rw [hab]; simp⟩
    · obtain ⟨t, ht⟩ := insN_prefix r a b (by omega)
      show ∃ t, (if bit r b then insN r b ++ [(b : Int)] else insN r b) = _
      rw [ht]
      by_cases hb : bit r b = true
      · exact ⟨t ++ [(b : Int)], by rw [if_pos hb]; simp⟩
      · exact ⟨t, by rw [if_neg hb]⟩
theorem insN_take (r : List Bool) (a b : Nat) (h : a ≤ b) : (insN r b).take (insN r a).length = insN r a := by
  obtain ⟨t, ht⟩ := insN_prefix r a b h
  rw [ht]; simp
theorem cnt_all (n : Nat) : ∀ m, m ≤ n → cnt (List.replicate n true) m = m
  | 0, _ => rfl
  | m + 1, h => by
    show cnt (List.replicate n true) m + (bit (List.replicate n true) m).toNat = m + 1
    rw [cnt_all n m (by omega)]
    unfold bit
    simp [List.getD_eq_getElem?_getD, show m < n by omega]

/-- Between two rounds: all that lay lies as it lay, but for the result's box and the counter's. -/
def AI (n₀ hi Bk : Nat) (w wl : World) (pre : List Int) (W : World) : Prop :=
  Kp (fun k => k < hi ∧ k ≠ n₀ + 1) wl W ∧ Boxed W (n₀ + 1) 4 (.bool false) ∧ Boxed W Bk 3 (.int .i64 ((pre.length : Nat) : Int)) ∧ Below n₀ w W
theorem AI.own {n₀ hi Bk B : Nat} {w wl : World} (hB : wl.heap.size ≤ B) (hh : hi ≤ wl.heap.size) (hn : n₀ ≤ B) (hw : n₀ ≤ w.heap.size) : OwnFrom B (AI n₀ hi Bk w wl) := by
  intro s X Y row hs hg hr
  obtain ⟨h1, h3, h5, h6⟩ := hs
  have hro : ∀ r, row = some r → ∃ o : Obj, X.heap[r]? = some o ∧ o.isCells = false := fun r e => (hr r e).2
  refine ⟨fun k hk => ?_, ?_, ?_, h6.grown hg (Nat.le_trans hw h6.size) (fun k e => Nat.le_trans hn (hr k e).1)⟩
  · have hx := h1 k hk
    have hlt : k < X.heap.size := by
      have h7 : k < wl.heap.size := Nat.lt_of_lt_of_le hk.1 hh
      rw [Array.getElem?_eq_getElem h7] at hx
      exact (Array.getElem?_eq_some_iff.1 hx).1
    exact (hg.block k hlt (fun e => by have := (hr k e.symm).1; have := hk.1; omega)).trans hx
  · exact boxed_own (n₀ + 1) 4 (fun _ : Unit => .bool false) () X Y row h3 hg hro
  · exact boxed_own Bk 3 (fun _ : Unit => .int .i64 ((s.length : Nat) : Int)) () X Y row h5 hg hro
theorem AI.step {n₀ hi Bk : Nat} {w wl W : World} {pre : List Int} (h : AI n₀ hi Bk w wl pre W) (h1 : n₀ + 1 < hi) (h3 : hi ≤ Bk) (x : Int) {vn : Int} (hvn : vn = ((pre.length + 1 : Nat) : Int)) :
    AI n₀ hi Bk w wl (pre ++ [x]) (W.setCell ⟨Bk, 0, none⟩ (.int .i64 vn)) ∧ Kp (fun k => k < hi ∧ k ≠ n₀ + 1) W (W.setCell ⟨Bk, 0, none⟩ (.int .i64 vn)) := by
  obtain ⟨g1, g3, g4, g6⟩ := h
  subst hvn
  have hkp : Kp (fun k => k < hi ∧ k ≠ n₀ + 1) W (W.setCell ⟨Bk, 0, none⟩ (.int .i64 ((pre.length + 1 : Nat) : Int))) := fun k hk =>
    Below.heap_setCell W ⟨Bk, 0, none⟩ _ k (by have := hk.1; show k ≠ Bk; omega)
  have e : (pre ++ [x]).length = pre.length + 1 := by simp
  refine ⟨⟨g1.trans hkp, g3.other (by omega) _, ?_, g6.setCell (p := ⟨Bk, 0, none⟩) (by show n₀ ≤ Bk; omega) _⟩, hkp⟩
  rw [e]; exact g4.set _
/-- How the loop may be left ahead of its end. -/
def AX (I : List Int → World → Prop) (want : List Int) (most : Int) : Code → List Int → World → Prop
  | .ret, pre, _ => pre ≠ want.take pre.length
  | .exit 0, pre, W => I pre W ∧ ((pre.length : Nat) : Int) = most
  | _, _, _ => False
theorem AX.two {I : List Int → World → Prop} {want : List Int} {most : Int} {c : Code} {pre : List Int} {W : World} (h : AX I want most c pre W) : (c = .ret ∧ pre ≠ want.take pre.length) ∨ (c = .exit 0 ∧ I pre W ∧ ((pre.length : Nat) : Int) = most) := by
  unfold AX at h
  split at h
  · exact .inl ⟨rfl, h⟩
  · exact .inr ⟨rfl, h⟩
  · exact h.elim
theorem AX.own {B : Nat} {I : List Int → World → Prop} {want : List Int} {most : Int} (hI : OwnFrom B I) : ∀ c, OwnFrom B (AX I want most c) := by
  intro c s X Y row hs hg hr
  unfold AX at hs ⊢
  split at hs
  · exact hs
  · exact ⟨hI _ X Y row hs.1 hg hr, hs.2⟩
  · exact hs

set_option maxRecDepth 100000 in
set_option maxHeartbeats 2000000 in
theorem bitsAll_in (n : Int) (A : Option Addr) (nl c : Nat) (l : Nat → Int × Int) (most : Int) (w : World) (hT : Tab w) (hD : Deeds w A nl l) :
    CallsIn Fence.wide 9 Tryd.prog 6 #[.int .i64 n, .slice A nl c, .int .i64 most] w fun e w' => e = .returned (.bool true) ∧ Below w.heap.size w w' := by
  refine callsIn_of_wp_marks Tryd.func6 rfl trivial ?_ rfl
  simp only [Tryd.ntmps6, List.size_toArray, List.length_cons, List.length_nil, Nat.reduceAdd, Nat.reduceSub, Array.replicate_succ, Array.replicate_zero, List.push_toArray, List.append_toArray, List.nil_append, List.cons_append]
  gi_wp2_with fail
  have hb1 : Below w.heap.size w ((w.alloc (.cells #[.int .i64 most] 3)).alloc (.cells #[.bool false] 4)) := ((Below.refl _ w).alloc (Nat.le_refl _) _).alloc (by simp) _
  have D5 : Boxed ((w.alloc (.cells #[.int .i64 most] 3)).alloc (.cells #[.bool false] 4)) w.heap.size 3 (.int .i64 most) := (Boxed.new w _ _).alloc _
  have D6 : Boxed ((w.alloc (.cells #[.int .i64 most] 3)).alloc (.cells #[.bool false] 4)) (w.heap.size + 1) 4 (.bool false) := by
    have h := Boxed.new (w.alloc (.cells #[.int .i64 most] 3)) 4 (.bool false)
    rwa [World.size_alloc] at h
  have hz0 : ((w.alloc (.cells #[.int .i64 most] 3)).alloc (.cells #[.bool false] 4)).heap.size = w.heap.size + 2 := by simp
  generalize (w.alloc (.cells #[.int .i64 most] 3)).alloc (.cells #[.bool false] 4) = w0 at *
  have HZ0 := Lib.hid hz0
  clear hz0
  refine ⟨trivial, (callsIn_wide.2 (size_law n w0)).mono ?_⟩
  rintro e w1 ⟨m, rfl, hm, hsz0, hb2⟩
  have hsz := Lib.hid hsz0
  have hm1 := Lib.hid hm
  clear hsz0 hm
  gi_wp2_with fail
  have hB2 := hb1.trans (hb2.mono hb1.size)
  have HT := Lib.hid hT
  refine ⟨trivial, (callsIn_wide.2 (made_any m A nl c l w1 (hT.below hB2) (by have := hm1.out; omega) (hD.below hB2))).mono ?_⟩
  rintro e w2 ⟨g, v, vr, r, rfl, hS, hR, hlr0, hb3⟩
  have hlr := Lib.hid hlr0
  obtain ⟨AR, cR, rfl, hcR, hCR⟩ := Kd.R_reads hR
  have hl := Lib.hid (show r.length ≤ 200 by have := hm1.out; omega)
  have hB3 := hB2.trans (hb3.mono hB2.size)
  have hB3' := hb2.trans (hb3.mono hb2.size)
  have hS2 := hS.lower (Nat.zero_le _)
  clear hlr0 hR hS hb2 hb3 hB2 hT hD
  gi_wp2_with fail
  refine ⟨trivial, (callsIn_wide.2 (size_law n w2)).mono ?_⟩
  rintro e w3 ⟨m2, rfl, -, hsz0, hb4⟩
  obtain rfl : m = m2 := hsz.out.trans hsz0.symm
  clear hsz0
  gi_wp2_with fail
  refine ⟨trivial, (callsIn_wide.2 (full_any m w3 (by have := hm1.out; omega))).mono ?_⟩
  rintro e w4 ⟨gf, vf, rfl, hF, hb5⟩
  have hS4 := (hS2.below hb4).below hb5
  have hC4 := Kd.C_below (Kd.C_below hCR hb4) hb5
  have hB4 := (hB3.trans (hb4.mono hB3.size))
  have hB5 := (hB4.trans (hb5.mono hB4.size))
  have hB4' := (hB3'.trans (hb4.mono hB3'.size))
  have hB5' := (hB4'.trans (hb5.mono hB4'.size))
  rw [← hlr.out] at hF
  have hF4 := hF.lower (Nat.zero_le _)
  clear hb4 hb5 hB4 hB4' hS2 hCR hB3 hB3' hF
  gi_wp2_with fail
  obtain ⟨k1, hk1⟩ := ref_list r (by have := hl.out; omega)
  have HK1 := Lib.hid hk1
  clear hk1
  refine ⟨trivial, (callsIn_wide.2 (concordanceref03_List.calls k1 AR cR r _ w4 hC4 hcR HK1.out)).mono ?_⟩
  rintro e w5 ⟨vw, rfl, hRw, hb6⟩
  obtain ⟨Aw, cw, rfl, hcw, hCw⟩ := Kd.R_reads hRw
  have hlw := insN_len r r.length
  have hRge := hRw
  have hCW0 : ∀ wl, Below w5.heap.size w5 wl → ∀ W', Kp (fun k => k < w5.heap.size + 2 ∧ k ≠ w.heap.size + 1) wl W' → Kd.C (Kd.int .i64) W' Aw (insN r r.length).length (insN r r.length) := fun wl hb6 W' hk =>
    (Kd.R_reads' (Kd.R_step (w1 := W') (Kd.R_bound hRw) (fun k hkk hlt => (hk k ⟨by have := hkk.2.2.1; omega, by have := hkk.2.1; have := hB5'.size; have := HZ0.out; omega⟩).trans (hb6.block k hkk.2.2.1)))).2.2
  have hS5 := hS4.below hb6
  have hF5 := hF4.below hb6
  have hB6 := hB5.trans (hb6.mono hB5.size)
  have hB6' := hB5'.trans (hb6.mono hB5'.size)
  obtain ⟨want, hwant⟩ : ∃ want, insN r r.length = want := ⟨_, rfl⟩
  rw [hwant] at hCw hcw hlw hCW0 ⊢
  have hCW := fun wl h => Lib.hid (hCW0 wl h)
  have HW := Lib.hid hwant
  have HLW := Lib.hid hlw
  clear hwant hlw hRw hRge hCW0 hb6 hS4 hF4 hB5 hB5' hC4 hcR HK1
  gi_wp2_with fail
  refine ⟨trivial, (all_in _ g _).mono ?_⟩
  rintro e w6 ⟨rfl, rfl⟩
  gi_wp2_with fail
  obtain ⟨wl, hwl⟩ : ∃ wl, (((w5.alloc (.cells #[.slice Aw want.length cw] 36)).alloc (.cells #[.pointer (some ⟨g, 0, none⟩)] 23)).alloc (.cells #[.int .i64 0] 3)) = wl := ⟨_, rfl⟩
  have hsz2 : wl.heap.size = w5.heap.size + 3 := by rw [← hwl]; simp
  have hb6 : Below w5.heap.size w5 wl := by rw [← hwl]; exact (((Below.refl _ w5).alloc (Nat.le_refl _) _).alloc (by simp) _).alloc (by simp; omega) _
  have B11 : Boxed wl w5.heap.size 36 (.slice Aw want.length cw) := by
    rw [← hwl]
    exact ((Boxed.new w5 _ _).alloc _).alloc _
  have Bs : wl.cell? ⟨w5.heap.size + 1, 0, none⟩ = some (.pointer (some ⟨g, 0, none⟩)) := by
    rw [← hwl]
    have h := Boxed.new (w5.alloc (.cells #[.slice Aw want.length cw] 36)) 23 (.pointer (some ⟨g, 0, none⟩))
    rw [World.size_alloc] at h
    exact (h.alloc _).cell
  have Bk : Boxed wl (w5.heap.size + 1 + 1) 3 (.int .i64 ((0 : Nat) : Int)) := by
    rw [← hwl]
    have h := Boxed.new ((w5.alloc (.cells #[.slice Aw want.length cw] 36)).alloc (.cells #[.pointer (some ⟨g, 0, none⟩)] 23)) 3 (.int .i64 0)
    rw [World.size_alloc, World.size_alloc] at h
    exact h
  have hz0 := HZ0.out
  have hs5 := hB6'.size
  have D5l : Boxed wl w.heap.size 3 (.int .i64 most) := (hb6.block _ (by omega)).trans ((hB6'.block _ (by omega)).trans D5)
  have D6l : Boxed wl (w.heap.size + 1) 4 (.bool false) := (hb6.block _ (by omega)).trans ((hB6'.block _ (by omega)).trans D6)
  have hBl : Below w.heap.size w wl := hB6.trans (hb6.mono hB6.size)
  have hTw := HT.out.lt
  have hT5 := HT.out.below hB6
  have hg6 : g ≠ w.heap.size + 1 := fun e => by
    have h1 := hS5.cell
    rw [e, (hB6'.block _ (by omega)).trans D6] at h1
    cases h1
  have hgf6 : gf ≠ w.heap.size + 1 := fun e => by
    have h1 := hF5.cell
    rw [e, (hB6'.block _ (by omega)).trans D6] at h1
    cases h1
  have hv6 : v.ownBlock ≠ some (w.heap.size + 1) := fun e => Kd.R_ne hS5.row ((hB6'.block _ (by omega)).trans D6) (by decide) e.symm
  have hvf6 : vf.ownBlock ≠ some (w.heap.size + 1) := fun e => Kd.R_ne hF5.row ((hB6'.block _ (by omega)).trans D6) (by decide) e.symm
  have hSl : Hid (∀ W', Kp (fun k => k < w5.heap.size + 2 ∧ k ≠ w.heap.size + 1) wl W' → IsSet W' 0 g v r ∧ Tab W') := Lib.hid (fun W' hk =>
    ⟨hS5.move (fun k hkk hlt => (hk k ⟨by omega, fun e => hkk.elim (fun h => hg6 (h.symm.trans e)) (fun h => hv6 (by rw [h, e]))⟩).trans (hb6.block k hlt)),
     fun j hj => (World.cell?_of_block (w := w5) ((hk 0 ⟨by have := hT5.lt; omega, by omega⟩).trans (hb6.block _ hT5.lt))).trans (hT5 j hj)⟩)
  have hFl : Hid (∀ W', Kp (fun k => k < w5.heap.size + 2 ∧ k ≠ w.heap.size + 1) wl W' → IsSet W' 0 gf vf (List.replicate r.length true)) := Lib.hid (fun W' hk =>
    hF5.move (fun k hkk hlt => (hk k ⟨by omega, fun e => hkk.elim (fun h => hgf6 (h.symm.trans e)) (fun h => hvf6 (by rw [h, e]))⟩).trans (hb6.block k hlt)))
  have hCb : ∀ ad j (y : Value), w5.cell? ⟨ad, j, none⟩ = some y → ad ≠ w.heap.size + 1 ∨ True := fun _ _ _ _ => .inr trivial
  have hseq0 := all_seq 8 (w5.heap.size + 1) 0 g v (fun k => k < w5.heap.size + 2 ∧ k ≠ w.heap.size + 1) r (by have := hl.out; omega) wl ⟨by omega, by omega⟩ (fun k hk => by have := hk.1; omega) Bs hSl.out
  have hI0 : AI w.heap.size (w5.heap.size + 2) (w5.heap.size + 1 + 1) w wl [] wl := ⟨fun _ _ => rfl, D6l, Bk, hBl⟩
  -- what was told by the document, in every later world
  have hCl : Hid (∀ W', Kp (fun k => k < w5.heap.size + 2 ∧ k ≠ w.heap.size + 1) wl W' → Kd.C (Kd.int .i64) W' Aw want.length want) := hCW wl hb6
  clear hCb D5 D6 D6l Bs Bk hBl hS5 hF5 hB6 hB6' hT5 hg6 hgf6 hv6 hvf6 hCw hCW hb1
  rw [hwl]
  clear hwl
  generalize hb5' : w5.heap.size = b5 at *
  refine wpIn_rangeFunc_ownG (F := Fence.wide) (n := 9) rfl (by decide) (gf := 40) (lb := #[.pointer (some ⟨b5 + 1, 0, none⟩)]) rfl trivial (enters_of Tryd.func40 (by kernel_rfl) rfl)
    hseq0 (fun h k => Kp.trans h k) (fun W l o o' hl _ _ _ => fun k hk => World.putObj_heap_other (by have := hk.1; omega)) (Below.refl _ _) (fun _ => rfl)
    (AI w.heap.size (b5 + 2) (b5 + 1 + 1) w wl) (AX (AI w.heap.size (b5 + 2) (b5 + 1 + 1) w wl) want most) (AI.own (Nat.le_refl _) (by omega) (by omega) (Nat.le_refl _)) (AX.own (AI.own (Nat.le_refl _) (by omega) (by omega) (Nat.le_refl _))) hI0
    (fun x => { tmps := #[.int .i64 n, .slice A nl c, .int .i64 most, undef, undef, .pointer (some ⟨w.heap.size, 0, none⟩), .pointer (some ⟨w.heap.size + 1, 0, none⟩), .pointer (some ⟨g, 0, none⟩), .slice AR r.length cR, .bool true, .pointer (some ⟨gf, 0, none⟩), .pointer (some ⟨b5, 0, none⟩), .func (.func 40) #[] #[.pointer (some ⟨b5 + 1, 0, none⟩)], .pointer (some ⟨b5 + 1 + 1, 0, none⟩), .int .i64 x, .tuple #[.pointer (some ⟨g, 0, none⟩), .slice AR r.length cR, .bool true], .int .i64 n, .int .i64 m, .slice A nl c, .tuple #[.pointer (some ⟨g, 0, none⟩), .slice AR r.length cR, .bool true], .pointer (some ⟨g, 0, none⟩), .slice AR r.length cR, .bool true, .int .i64 n, .int .i64 m, .pointer (some ⟨gf, 0, none⟩), .bool true, .bool false, .bool false, .pointer (some ⟨gf, 0, none⟩), .bool false, .bool false, .slice AR r.length cR, .slice Aw want.length cw, .pointer (some ⟨g, 0, none⟩), .func (.func 40) #[] #[.pointer (some ⟨b5 + 1, 0, none⟩)], .func (.func 40) #[] #[.pointer (some ⟨b5 + 1, 0, none⟩)], .bool false, .func (.func 40) #[] #[.pointer (some ⟨b5 + 1, 0, none⟩)], .int .i64 x, undef, undef, undef, undef, undef, undef, undef, undef, undef, undef, undef, undef, undef, undef, undef, undef, undef, undef, undef, undef, undef, undef, undef, undef, undef, undef, undef, undef, undef, undef, undef, undef, undef, undef, undef, undef, undef, undef, undef, undef, undef, undef, undef], defers := [] }) ?assign ?body ?done ?stop
  case assign =>
    intro l x W K hK
    unfold encI
    gi_wp2
    exact hK
  case body =>
    rintro l pre x W hI hlt
    obtain ⟨hKp, B6, Bk, hB⟩ := hI
    have hI := Lib.hid (show AI w.heap.size (b5 + 2) (b5 + 1 + 1) w wl pre W from ⟨hKp, B6, Bk, hB⟩)
    have hstep := Lib.hid (fun vn => AI.step hI.out (by omega) (by omega) x (vn := vn))
    have hKl : pre.length < want.length := by rw [HLW.out]; exact hlt
    have HT1 := Lib.hid (show want.take (pre.length + 1) = want.take pre.length ++ [rd want (pre.length : Int)] by
      rw [List.take_succ_eq_append_getElem hKl]
      unfold rd
      rw [Int.toNat_natCast, List.getD_eq_getElem?_getD, List.getElem?_eq_getElem hKl]; rfl)
    obtain ⟨ad, hA, hx⟩ := Kd.at_int (hCl.out W hKp) (pre.length : Int) (by omega) (by omega)
    rw [Int.toNat_natCast] at hx
    subst hA
    have b11 : W.cell? ⟨b5, 0, none⟩ = some (.slice (some ad) want.length cw) := (World.cell?_of_block (hKp b5 ⟨by omega, by omega⟩)).trans B11.cell
    have hFW : IsSet W 0 gf vf (List.replicate r.length true) := hFl.out W hKp
    have hTW : Tab W := (hSl.out W hKp).2
    have c5 : W.cell? ⟨w.heap.size, 0, none⟩ = some (.int .i64 most) := (World.cell?_of_block (hKp w.heap.size ⟨by omega, by omega⟩)).trans D5l.cell
    have c6 := B6.cell
    have f6 := B6.frozen
    have ck := Bk.cell
    have fk := Bk.frozen
    have hwl := HLW.out
    have hcl := cnt_le r r.length
    have hrl := hl.out
    have hml : pre.length ≤ 200 := by omega
    clear hB B6 Bk hKp hseq0 hI0 D5l hFW hTW B11
    obtain ⟨Y, hY⟩ : ∃ Y, rd want (pre.length : Int) = Y := ⟨_, rfl⟩
    rw [hY] at hx HT1
    generalize hme : pre.length = m' at *
    have hMe := Lib.hid hme
    have hww := HLW
    have p0 := eq_true (show (0 : Int) ≤ (m' : Int) by omega)
    have p1 := eq_true (show (m' : Int) < (want.length : Int) by omega)
    have p2 : ¬ ((want.length : Int) ≤ (m' : Int)) := by omega
    clear hwl hcl hrl hY hme
    by_cases e1 : x = Y
    · have e1b : (x == Y) = true := by rw [e1]; simp
      have e1c : (x != Y) = false := by rw [e1]; simp
      have HE := Lib.hid e1
      clear e1
      by_cases e3 : (m' : Int) + 1 = most
      · have e3b : (((m' : Int) + 1) == most) = true := by rw [e3]; simp
        have HE3 := Lib.hid e3
        clear e3
        gi_wp2
        exact ⟨(KeepsOthers.setCell _ _ _).from _, (hstep.out _ (by have := hMe.out; omega)).1, by rw [List.length_append, hMe.out]; simpa using HE3.out⟩
      · have e3b : (((m' : Int) + 1) == most) = false := by rw [beq_eq_false_iff_ne]; exact e3
        gi_wp2
        exact ⟨(KeepsOthers.setCell _ _ _).from _, (hstep.out _ (by have := hMe.out; omega)).2, (hstep.out _ (by have := hMe.out; omega)).1⟩
    · have e1b : (x == Y) = false := by rw [beq_eq_false_iff_ne]; exact e1
      have e1c : (x != Y) = true := by simpa using e1
      gi_wp2
      refine ⟨(KeepsOthers.setCell _ _ _).from _, fun he => ?_⟩
      rw [show (pre ++ [x]).length = m' + 1 by rw [List.length_append, hMe.out]; rfl, HT1.out] at he
      have h2 := congrArg List.getLast? he
      simp only [List.getLast?_append, List.getLast?_singleton, Option.some_or, Option.some.injEq] at h2
      exact e1 h2
  case done =>
    rintro D xs W hD2 rfl hI hK
    obtain ⟨hKp, B6, Bk, hB⟩ := hI
    rw [HW.out] at Bk
    have b11 : W.cell? ⟨b5, 0, none⟩ = some (.slice Aw want.length cw) := (World.cell?_of_block (hKp b5 ⟨by omega, by omega⟩)).trans B11.cell
    have hFW : IsSet W 0 gf vf (List.replicate r.length true) := hFl.out W hKp
    have hTW : Tab W := (hSl.out W hKp).2
    have c5 : W.cell? ⟨w.heap.size, 0, none⟩ = some (.int .i64 most) := (World.cell?_of_block (hKp w.heap.size ⟨by omega, by omega⟩)).trans D5l.cell
    have c6 := B6.cell
    have f6 := B6.frozen
    have ck := Bk.cell
    have hww : ((want.length : Int) == (want.length : Int)) = true := by simp
    clear hseq0 hI0 hKp Bk D5l B11 hCl hSl hFl
    gi_wp2_with fail
    all_goals
      refine ⟨trivial, (callsIn_wide.2 (count_any 0 gf vf _ W hFW (by rw [List.length_replicate]; have := hl.out; omega))).mono ?_⟩
      rintro e w8 ⟨rfl, hb8⟩
      rw [List.length_replicate, cnt_all r.length r.length (Nat.le_refl _)]
      have hF8 := hFW.below hb8
      have hT8 := hTW.below hb8
      have hK8 : w8.heap[D]? = some (.deferred (some [])) := (hb8.block D (Array.getElem?_eq_some_iff.1 hK).1).trans hK
      have B68 : Boxed w8 (w.heap.size + 1) 4 (.bool false) := (hb8.block _ B6.lt).trans B6
      have hB8 := hB.trans (hb8.mono hB.size)
      clear hFW hTW hb8 B6 hB hK c5 c6 f6 ck b11
      gi_wp2_with fail
      refine ⟨trivial, (callsIn_wide.2 (size_any 0 gf vf _ w8 hF8)).mono ?_⟩
      rintro e w9 ⟨rfl, hb8⟩
      rw [List.length_replicate]
      have hT9 := hT8.below hb8
      have hK9 : w9.heap[D]? = some (.deferred (some [])) := (hb8.block D (Array.getElem?_eq_some_iff.1 hK8).1).trans hK8
      have B69 : Boxed w9 (w.heap.size + 1) 4 (.bool false) := (hb8.block _ B68.lt).trans B68
      have hB9 := hB8.trans (hb8.mono hB8.size)
      clear hF8 hT8 hb8 B68 hB8 hK8
      gi_wp2_with fail
      refine ⟨trivial, (callsIn_wide.2 (lives_any w9 hT9)).mono ?_⟩
      rintro e w10 ⟨rfl, hb8⟩
      have hK10 : w10.heap[D]? = some (.deferred (some [])) := (hb8.block D (Array.getElem?_eq_some_iff.1 hK9).1).trans hK9
      have B70 : Boxed w10 (w.heap.size + 1) 4 (.bool false) := (hb8.block _ B69.lt).trans B69
      have hB10 := hB9.trans (hb8.mono hB9.size)
      clear hT9 hb8 B69 hB9 hK9
      have d1 := B70.cell
      have d2 := B70.frozen
      gi_wp2_with fail
      refine ⟨by simp, .inl ⟨_, _, rfl, run_takeDeferred ((Below.heap_setCell w10 ⟨w.heap.size + 1, 0, none⟩ _ D (by show D ≠ w.heap.size + 1; omega)).trans hK10), ?_⟩⟩
      have B71 : Boxed ((w10.setCell ⟨w.heap.size + 1, 0, none⟩ (.bool true)).putObj D (.deferred none)) (w.heap.size + 1) 4 (.bool true) := (World.putObj_heap_other (by omega)).trans (B70.set (.bool true))
      have d3 := B71.cell
      exact ⟨.bool true, by simp [results, Tryd.results6, go_sem, d3], rfl, (hB10.setCell (p := ⟨w.heap.size + 1, 0, none⟩) (by show _ ≤ w.heap.size + 1; omega) _).trans (belowK_b (w := w) (Nat.le_refl _) _ D _ _ (by omega) ((Below.heap_setCell w10 ⟨w.heap.size + 1, 0, none⟩ (.bool true) D (by show D ≠ w.heap.size + 1; omega)).trans hK10) rfl rfl)⟩
  case stop =>
    intro D c pre W hD2 hSp hX hK
    obtain ⟨p, hp, hbp, rfl⟩ := hSp
    rcases AX.two hX with ⟨rfl, hne⟩ | ⟨rfl, ⟨hKp, B6, Bk, hB⟩, hmost⟩
    · rw [← HW.out, insN_take r (p + 1) r.length (by omega)] at hne
      exact absurd rfl hne
    · have b11 : W.cell? ⟨b5, 0, none⟩ = some (.slice Aw want.length cw) := (World.cell?_of_block (hKp b5 ⟨by omega, by omega⟩)).trans B11.cell
      have hFW : IsSet W 0 gf vf (List.replicate r.length true) := hFl.out W hKp
      have hTW : Tab W := (hSl.out W hKp).2
      have c5 : W.cell? ⟨w.heap.size, 0, none⟩ = some (.int .i64 most) := (World.cell?_of_block (hKp w.heap.size ⟨by omega, by omega⟩)).trans D5l.cell
      have c6 := B6.cell
      have f6 := B6.frozen
      have ck := Bk.cell
      clear hseq0 hI0 hKp Bk D5l B11 hCl hSl hFl
      generalize (insN r (p + 1)).length = K at *
      subst hmost
      have hkk : ((K : Int) == (K : Int)) = true := by simp
      by_cases hq : (K : Int) = (want.length : Int)
      all_goals
        first
        | (have hqb : ((K : Int) == (want.length : Int)) = true := (by rw [hq]; simp); clear hq)
        | (have hqb : ((K : Int) == (want.length : Int)) = false := (by rw [beq_eq_false_iff_ne]; exact hq))
        gi_wp2_with fail
        refine ⟨trivial, (callsIn_wide.2 (count_any 0 gf vf _ W hFW (by rw [List.length_replicate]; have := hl.out; omega))).mono ?_⟩
        rintro e w8 ⟨rfl, hb8⟩
        rw [List.length_replicate, cnt_all r.length r.length (Nat.le_refl _)]
        have hF8 := hFW.below hb8
        have hT8 := hTW.below hb8
        have hK8 : w8.heap[D]? = some (.deferred (some [])) := (hb8.block D (Array.getElem?_eq_some_iff.1 hK).1).trans hK
        have B68 : Boxed w8 (w.heap.size + 1) 4 (.bool false) := (hb8.block _ B6.lt).trans B6
        have hB8 := hB.trans (hb8.mono hB.size)
        clear hFW hTW hb8 B6 hB hK c5 c6 f6 ck b11
        gi_wp2_with fail
        refine ⟨trivial, (callsIn_wide.2 (size_any 0 gf vf _ w8 hF8)).mono ?_⟩
        rintro e w9 ⟨rfl, hb8⟩
        rw [List.length_replicate]
        have hT9 := hT8.below hb8
        have hK9 : w9.heap[D]? = some (.deferred (some [])) := (hb8.block D (Array.getElem?_eq_some_iff.1 hK8).1).trans hK8
        have B69 : Boxed w9 (w.heap.size + 1) 4 (.bool false) := (hb8.block _ B68.lt).trans B68
        have hB9 := hB8.trans (hb8.mono hB8.size)
        clear hF8 hT8 hb8 B68 hB8 hK8
        gi_wp2_with fail
        refine ⟨trivial, (callsIn_wide.2 (lives_any w9 hT9)).mono ?_⟩
        rintro e w10 ⟨rfl, hb8⟩
        have hK10 : w10.heap[D]? = some (.deferred (some [])) := (hb8.block D (Array.getElem?_eq_some_iff.1 hK9).1).trans hK9
        have B70 : Boxed w10 (w.heap.size + 1) 4 (.bool false) := (hb8.block _ B69.lt).trans B69
        have hB10 := hB9.trans (hb8.mono hB9.size)
        clear hT9 hb8 B69 hB9 hK9
        have d1 := B70.cell
        have d2 := B70.frozen
        gi_wp2_with fail
        refine ⟨by simp, .inl ⟨_, _, rfl, run_takeDeferred ((Below.heap_setCell w10 ⟨w.heap.size + 1, 0, none⟩ _ D (by show D ≠ w.heap.size + 1; omega)).trans hK10), ?_⟩⟩
        have B71 : Boxed ((w10.setCell ⟨w.heap.size + 1, 0, none⟩ (.bool true)).putObj D (.deferred none)) (w.heap.size + 1) 4 (.bool true) := (World.putObj_heap_other (by omega)).trans (B70.set (.bool true))
        have d3 := B71.cell
        exact ⟨.bool true, by simp [results, Tryd.results6, go_sem, d3], rfl, (hB10.setCell (p := ⟨w.heap.size + 1, 0, none⟩) (by show _ ≤ w.heap.size + 1; omega) _).trans (belowK_b (w := w) (Nat.le_refl _) _ D _ _ (by omega) ((Below.heap_setCell w10 ⟨w.heap.size + 1, 0, none⟩ (.bool true) D (by show D ≠ w.heap.size + 1; omega)).trans hK10) rfl rfl)⟩
theorem bitsAll_walk (n : Int) (A : Option Addr) (nl c : Nat) (l : Nat → Int × Int) (most : Int) (w : World) (hT : Tab w) (hD : Deeds w A nl l) :
    Calls Tryd.prog 6 #[.int .i64 n, .slice A nl c, .int .i64 most] w fun e w' => e = .returned (.bool true) ∧ Below w.heap.size w w' :=
  callsIn_wide.1 (bitsAll_in n A nl c l most w hT hD)
end Go.Proofs.YtfoheajcahiceaaDoor
