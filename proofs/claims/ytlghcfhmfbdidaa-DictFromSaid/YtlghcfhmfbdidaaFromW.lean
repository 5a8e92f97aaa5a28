/- DictFrom: the walk. No condition beyond the row's own. -/
import Derived.Test.YtlghcfhmfbdidaaNames
import Derived.Test.YtlghcfhmfbdidaaLives
import Derived.Test.YtlghcfhmfbdidaaFindsPlain
import Derived.Test.YtlghcfhmfbdidaaOpenStrs
namespace Go.Proofs.Ytlghcfhmfbdidaa
open Go.RowKit Go.Shelf Go.Proofs.Ytlghcfhmfbdidaa.PAll Go.Proofs.YtlghcfhmfbdidaaW.PrintWords Go.Proofs.YtlghcfhmfbdidaaW.PrintLast Go.Proofs.YtlghcfhmfbdidaaW.PrintMore
attribute [local go_sem] Oper.semAt_some

section
variable {P : Program} (w : World)
theorem run_equalIn_func (d : Nat) (t : TypeId) {ps rs : Array TypeId} {v : Bool} (f : Fn) (a b : Array Value) (h : P.underlying t = some (.func ps rs v)) : (Op.equalIn (d + 1) t (.func f a b) .nilFunc).run P w = .ok false w := by
  simp [Op.equalIn, run_underlying h]
theorem run_equal_func (t : TypeId) {ps rs : Array TypeId} {v : Bool} (f : Fn) (a b : Array Value) (h : P.underlying t = some (.func ps rs v)) : (Op.equal t (.func f a b) .nilFunc).run P w = .ok false w := run_equalIn_func w 9999 t f a b h
theorem run_eql_func_nil (t : TypeId) {ps rs : Array TypeId} {v : Bool} (f : Fn) (a b : Array Value) (h : P.underlying t = some (.func ps rs v)) : (binOp .eql t (.func f a b) .nilFunc).run P w = .ok (.bool false) w := by
  simp only [binOp]
  simp [run_equal_func w t f a b h]
end
@[go_sem] theorem eql_iter_nil (w : World) (f : Fn) (a b : Array Value) : (binOp .eql 36 (.func f a b) .nilFunc).run Try.prog w = .ok (.bool false) w := run_eql_func_nil w _ f a b Try.underlying36
/-- Between two rounds: what lies from lo up to hi lies as it lay; the boxes hold what they must. -/
def FI (n₀ lo hi Bk Bn : Nat) (a : Nat) (most : Int) (w wl : World) (pre : List (ByteArray × Int)) (W : World) : Prop :=
  Kp (fun k => lo ≤ k ∧ k < hi) wl W ∧ Boxed W n₀ 3 (.int .i64 most) ∧ Boxed W (n₀ + 1) 4 (.bool false) ∧ Boxed W Bk 3 (.int .i64 ((a + pre.length : Nat) : Int)) ∧ Boxed W Bn 3 (.int .i64 ((pre.length : Nat) : Int)) ∧ Below n₀ w W
theorem FI.own {n₀ lo hi Bk Bn a B : Nat} {most : Int} {w wl : World} (hB : wl.heap.size ≤ B) (hh : hi ≤ wl.heap.size) (hn : n₀ ≤ B) (hw : n₀ ≤ w.heap.size) : OwnFrom B (FI n₀ lo hi Bk Bn a most w wl) := by
  intro s X Y row hs hg hr
  obtain ⟨h1, h2, h3, h4, h5, h6⟩ := hs
  have hro : ∀ r, row = some r → ∃ o : Obj, X.heap[r]? = some o ∧ o.isCells = false := fun r e => (hr r e).2
  refine ⟨fun k hk => ?_, ?_, ?_, ?_, ?_, h6.grown hg (Nat.le_trans hw h6.size) (fun k e => Nat.le_trans hn (hr k e).1)⟩
  · have hx := h1 k hk
    have hlt : k < X.heap.size := by
      have h7 : k < wl.heap.size := Nat.lt_of_lt_of_le hk.2 hh
      rw [Array.getElem?_eq_getElem h7] at hx
      exact (Array.getElem?_eq_some_iff.1 hx).1
    exact (hg.block k hlt (fun e => by have := (hr k e.symm).1; have := hk.2; omega)).trans hx
  · exact boxed_own n₀ 3 (fun _ : Unit => .int .i64 most) () X Y row h2 hg hro
  · exact boxed_own (n₀ + 1) 4 (fun _ : Unit => .bool false) () X Y row h3 hg hro
  · exact boxed_own Bk 3 (fun _ : Unit => .int .i64 ((a + s.length : Nat) : Int)) () X Y row h4 hg hro
  · exact boxed_own Bn 3 (fun _ : Unit => .int .i64 ((s.length : Nat) : Int)) () X Y row h5 hg hro
theorem FI.step {n₀ lo hi Bk Bn a : Nat} {most : Int} {w wl W : World} {pre : List (ByteArray × Int)} (h : FI n₀ lo hi Bk Bn a most w wl pre W) (h1 : n₀ + 1 < lo) (h2 : lo ≤ hi) (h3 : hi ≤ Bk) (h4 : Bk < Bn) (x : ByteArray × Int) {vk vn : Int} (hvk : vk = ((a + (pre.length + 1) : Nat) : Int)) (hvn : vn = ((pre.length + 1 : Nat) : Int)) :
    FI n₀ lo hi Bk Bn a most w wl (pre ++ [x]) ((W.setCell ⟨Bk, 0, none⟩ (.int .i64 vk)).setCell ⟨Bn, 0, none⟩ (.int .i64 vn)) ∧ Kp (fun k => lo ≤ k ∧ k < hi) W ((W.setCell ⟨Bk, 0, none⟩ (.int .i64 vk)).setCell ⟨Bn, 0, none⟩ (.int .i64 vn)) := by
  obtain ⟨g1, g2, g3, g4, g5, g6⟩ := h
  subst hvk; subst hvn
  have hkp : Kp (fun k => lo ≤ k ∧ k < hi) W ((W.setCell ⟨Bk, 0, none⟩ (.int .i64 ((a + (pre.length + 1) : Nat) : Int))).setCell ⟨Bn, 0, none⟩ (.int .i64 ((pre.length + 1 : Nat) : Int))) := fun k hk =>
    (Below.heap_setCell _ ⟨Bn, 0, none⟩ _ k (by have := hk.2; show k ≠ Bn; omega)).trans (Below.heap_setCell W ⟨Bk, 0, none⟩ _ k (by have := hk.2; show k ≠ Bk; omega))
  have e : (pre ++ [x]).length = pre.length + 1 := by simp
  refine ⟨⟨g1.trans hkp, (g2.other (by omega) _).other (by omega) _, (g3.other (by omega) _).other (by omega) _, ?_, ?_, (g6.setCell (p := ⟨Bk, 0, none⟩) (by show n₀ ≤ Bk; omega) _).setCell (p := ⟨Bn, 0, none⟩) (by show n₀ ≤ Bn; omega) _⟩, hkp⟩
  · rw [e]; exact (g4.set _).other (by omega) _
  · rw [e]; exact (g5.other (by omega) _).set _
/-- How the loop may be left ahead of its end. -/
def FX (I : List (ByteArray × Int) → World → Prop) (T : Nat → List (ByteArray × Int)) (most : Int) : Code → List (ByteArray × Int) → World → Prop
  | .ret, pre, _ => pre ≠ T pre.length
  | .exit 0, pre, W => I pre W ∧ ((pre.length : Nat) : Int) = most
  | _, _, _ => False
theorem FX.two {I : List (ByteArray × Int) → World → Prop} {T : Nat → List (ByteArray × Int)} {most : Int} {c : Code} {pre : List (ByteArray × Int)} {W : World} (h : FX I T most c pre W) : (c = .ret ∧ pre ≠ T pre.length) ∨ (c = .exit 0 ∧ I pre W ∧ ((pre.length : Nat) : Int) = most) := by
  unfold FX at h
  split at h
  · exact .inl ⟨rfl, h⟩
  · exact .inr ⟨rfl, h⟩
  · exact h.elim
theorem FX.own {B : Nat} {I : List (ByteArray × Int) → World → Prop} {T : Nat → List (ByteArray × Int)} {most : Int} (hI : OwnFrom B I) : ∀ c, OwnFrom B (FX I T most c) := by
  intro c s X Y row hs hg hr
  unfold FX at hs ⊢
  split at hs
  · exact hs
  · exact ⟨hI _ X Y row hs.1 hg hr, hs.2⟩
  · exact hs

set_option maxRecDepth 100000 in
set_option maxHeartbeats 4000000 in
theorem dictFrom_in (A0 : Option Addr) (c0 : Nat) (l : List ByteArray) (i most : Int) (w : World) (hr0 : Kd.C Kd.string w A0 l.length l) (hc0 : l.length ≤ c0) (hi1 : -9223372036854775808 ≤ i) (hi2 : i ≤ 9223372036854775807) :
    CallsIn Fence.wide 9 Try.prog 5 #[.slice A0 l.length c0, .int .i64 i, .int .i64 most] w fun e w' => e = .returned (.bool true) ∧ Below w.heap.size w w' := by
  obtain ⟨k1, hk1⟩ := (good_ev l).rounds
  obtain ⟨k2, hk2⟩ := (rises_ev (goodL l) (goodL_up l) (by have := goodL_len l; omega)).rounds
  have hlen := goodL_len l
  generalize goodL l = G at *
  refine callsIn_of_wp_marks Try.func5 rfl trivial ?_ rfl
  simp only [Try.ntmps5, List.size_toArray, List.length_cons, List.length_nil, Nat.reduceAdd, Nat.reduceSub, Array.replicate_succ, Array.replicate_zero, List.push_toArray, List.append_toArray, List.nil_append, List.cons_append]
  gi_wp2_with fail
  have hb1 : Below w.heap.size w ((w.alloc (.cells #[.int .i64 most] 3)).alloc (.cells #[.bool false] 4)) := ((Below.refl _ w).alloc (Nat.le_refl _) _).alloc (by simp) _
  have D5 : Boxed ((w.alloc (.cells #[.int .i64 most] 3)).alloc (.cells #[.bool false] 4)) w.heap.size 3 (.int .i64 most) := (Boxed.new w _ _).alloc _
  have D6 : Boxed ((w.alloc (.cells #[.int .i64 most] 3)).alloc (.cells #[.bool false] 4)) (w.heap.size + 1) 4 (.bool false) := by
    have h := Boxed.new (w.alloc (.cells #[.int .i64 most] 3)) 4 (.bool false)
    rwa [World.size_alloc] at h
  have hz0 : ((w.alloc (.cells #[.int .i64 most] 3)).alloc (.cells #[.bool false] 4)).heap.size = w.heap.size + 2 := by simp
  have hr1 := Kd.C_below hr0 hb1
  generalize (w.alloc (.cells #[.int .i64 most] 3)).alloc (.cells #[.bool false] 4) = w0 at *
  refine ⟨trivial, (callsIn_wide.2 (concordanceref07_Good.calls k1 A0 c0 l 20 G w0 hr1 hc0 hk1)).mono ?_⟩
  rintro e w1 ⟨v, rfl, hR, hb2⟩
  obtain ⟨A1, c1, rfl, hc1, hC1⟩ := Kd.R_reads hR
  gi_wp2_with fail
  have hb3 : Below w0.heap.size w0 (w1.alloc (.cells #[.slice A1 G.length c1] 22)) := hb2.alloc hb2.size _
  have D7 := Boxed.new w1 22 (.slice A1 G.length c1)
  have hC2 : Kd.C Kd.string (w1.alloc (.cells #[.slice A1 G.length c1] 22)) A1 G.length G := Kd.C_alloc hC1 _
  have hR2 : Kd.R Kd.string 9 (w1.alloc (.cells #[.slice A1 G.length c1] 22)) w0.heap.size (fun _ => True) (.slice A1 G.length c1) G := Kd.R_alloc hR _
  have hB7 : w0.heap.size ≤ w1.heap.size := hb2.size
  clear hb2 hC1 hR hr1
  generalize w1.heap.size = B7 at *
  generalize w1.alloc (.cells #[.slice A1 G.length c1] 22) = w2 at *
  refine ⟨trivial, (callsIn_wide.2 (made_any A1 c1 k2 G w2 hC2 hc1 (by omega) hk2)).mono ?_⟩
  rintro e w3 ⟨g, rfl, hDR, hb4⟩
  have hb5 := hb3.trans (hb4.mono hb3.size)
  have D7' : Boxed w3 B7 22 (.slice A1 G.length c1) := (hb4.block B7 D7.lt).trans D7
  have hC3 := Kd.C_below hC2 hb4
  have hR3 := Kd.R_below hR2 hb4
  have hDR3 := hDR.lower hb3.size
  have hB7l := D7'.lt
  clear hb3 D7 hC2 hR2 hDR hb4
  gi_wp2_with fail
  refine ⟨trivial, (from_in _ g i _).mono ?_⟩
  rintro e w4 ⟨rfl, rfl⟩
  have hmax : max i 0 = ((i.toNat : Nat) : Int) := by omega
  have hseq0 := fun (S : Nat → Prop) (wl : World) => from_seq 8 (w3.heap.size + 1) w3.heap.size g S i G (vals G.length) (vals_len _) (by omega) wl hi1 hi2
  generalize hA : i.toNat = a at *
  have hseqh := Lib.hid hseq0
  clear hseq0 hA
  gi_wp2_with fail
  obtain ⟨wl, hwl⟩ : ∃ wl, ((((w3.alloc (.cells #[.pointer (some ⟨g, 0, none⟩)] 24)).alloc (.cells #[.int .i64 i] 3)).alloc (.cells #[.int .i64 a] 3)).alloc (.cells #[.int .i64 0] 3)) = wl := ⟨_, rfl⟩
  have hsz : wl.heap.size = w3.heap.size + 4 := by rw [← hwl]; simp
  have hb6 : Below w3.heap.size w3 wl := by rw [← hwl]; exact ((((Below.refl _ w3).alloc (Nat.le_refl _) _).alloc (by simp) _).alloc (by simp; omega) _).alloc (by simp; omega) _
  have Bd : wl.cell? ⟨w3.heap.size, 0, none⟩ = some (.pointer (some ⟨g, 0, none⟩)) := by rw [← hwl]; simp [go_sem]
  have Bi : wl.cell? ⟨w3.heap.size + 1, 0, none⟩ = some (.int .i64 i) := by rw [← hwl]; simp [go_sem]
  have Bk : Boxed wl (w3.heap.size + 1 + 1) 3 (.int .i64 ((a + 0 : Nat) : Int)) := by
    rw [← hwl]
    have h := Boxed.new ((w3.alloc (.cells #[.pointer (some ⟨g, 0, none⟩)] 24)).alloc (.cells #[.int .i64 i] 3)) 3 (.int .i64 a)
    rw [World.size_alloc, World.size_alloc] at h
    exact h.alloc _
  have Bn : Boxed wl (w3.heap.size + 1 + 1 + 1) 3 (.int .i64 ((0 : Nat) : Int)) := by
    rw [← hwl]
    have h := Boxed.new (((w3.alloc (.cells #[.pointer (some ⟨g, 0, none⟩)] 24)).alloc (.cells #[.int .i64 i] 3)).alloc (.cells #[.int .i64 a] 3)) 3 (.int .i64 0)
    rw [World.size_alloc, World.size_alloc, World.size_alloc] at h
    exact h
  have hb7 : Below w0.heap.size w0 wl := hb5.trans (hb6.mono hb5.size)
  have D5l : Boxed wl w.heap.size 3 (.int .i64 most) := (hb7.block _ D5.lt).trans D5
  have D6l : Boxed wl (w.heap.size + 1) 4 (.bool false) := (hb7.block _ D6.lt).trans D6
  have D7l : Boxed wl B7 22 (.slice A1 G.length c1) := (hb6.block _ hB7l).trans D7'
  have hBl : Below w.heap.size w wl := hb1.trans (hb7.mono hb1.size)
  have hws := hb1.size
  have hDl : ∀ W', Kp (fun k => w0.heap.size ≤ k ∧ k < w3.heap.size + 2) wl W' → IsD W' g G (vals G.length) := fun W' hk =>
    (hDR3.move (fun k hge hlt => (hk k ⟨hge, by omega⟩).trans (hb6.block k hlt))).isD
  have hCl : ∀ W', Kp (fun k => w0.heap.size ≤ k ∧ k < w3.heap.size + 2) wl W' → Kd.C Kd.string W' A1 G.length G := fun W' hk =>
    (Kd.R_reads' (Kd.R_step (w1 := W') (Kd.R_bound hR3) (fun k hkk hlt => (hk k ⟨hkk.2.1, by omega⟩).trans (hb6.block k hlt)))).2.2
  have hseq := hseqh.out (fun k => w0.heap.size ≤ k ∧ k < w3.heap.size + 2) wl ⟨by have := hb5.size; omega, by omega⟩ ⟨hb5.size, by omega⟩ (fun k hk => by have := hk.2; omega) Bi Bd hDl
  have hI0 : FI w.heap.size w0.heap.size (w3.heap.size + 2) (w3.heap.size + 1 + 1) (w3.heap.size + 1 + 1 + 1) a most w wl [] wl := ⟨fun _ _ => rfl, D5l, D6l, Bk, Bn, hBl⟩
  have hs5 := hb5.size
  clear hb5 hb6 hb7 D5 D6 D5l D6l Bk Bn Bd Bi hC3 hR3 hDR3 hseqh D7' hb1 hr0 hc0 hmax
  rw [hwl]
  clear hwl
  generalize hb3' : w3.heap.size = b3 at *
  generalize hb0' : w0.heap.size = b0 at *
  subst hz0
  refine wpIn_rangeFunc_ownG (F := Fence.wide) (n := 9) rfl (by decide) (gf := 35) (lb := #[.pointer (some ⟨b3 + 1, 0, none⟩), .pointer (some ⟨b3, 0, none⟩)]) rfl trivial (enters_of Try.func35 (by kernel_rfl) rfl)
    hseq (fun h k => Kp.trans h k) (fun W l o o' hl _ _ _ => fun k hk => World.putObj_heap_other (by have := hk.2; omega)) (Below.refl _ _) (fun _ => rfl)
    (FI w.heap.size (w.heap.size + 2) (b3 + 2) (b3 + 1 + 1) (b3 + 1 + 1 + 1) a most w wl) (FX (FI w.heap.size (w.heap.size + 2) (b3 + 2) (b3 + 1 + 1) (b3 + 1 + 1 + 1) a most w wl) (told G (vals G.length) a) most) (FI.own (Nat.le_refl _) (by omega) (by omega) (Nat.le_refl _)) (FX.own (FI.own (Nat.le_refl _) (by omega) (by omega) (Nat.le_refl _))) hI0
    (fun x => { tmps := #[.slice A0 l.length c0, .int .i64 i, .int .i64 most, undef, undef, .pointer (some ⟨w.heap.size, 0, none⟩), .pointer (some ⟨w.heap.size + 1, 0, none⟩), .pointer (some ⟨B7, 0, none⟩), .pointer (some ⟨g, 0, none⟩), .func (.func 35) #[] #[.pointer (some ⟨b3 + 1, 0, none⟩), .pointer (some ⟨b3, 0, none⟩)], .pointer (some ⟨b3 + 1 + 1, 0, none⟩), .pointer (some ⟨b3 + 1 + 1 + 1, 0, none⟩), .string x.1, .int .i64 x.2, .slice A0 l.length c0, .slice A1 G.length c1, .slice A1 G.length c1, .pointer (some ⟨g, 0, none⟩), .pointer (some ⟨g, 0, none⟩), .bool false, .pointer (some ⟨g, 0, none⟩), .int .i64 i, .func (.func 35) #[] #[.pointer (some ⟨b3 + 1, 0, none⟩), .pointer (some ⟨b3, 0, none⟩)], .func (.func 35) #[] #[.pointer (some ⟨b3 + 1, 0, none⟩), .pointer (some ⟨b3, 0, none⟩)], .bool false, .int .i64 i, .int .i64 a, .func (.func 35) #[] #[.pointer (some ⟨b3 + 1, 0, none⟩), .pointer (some ⟨b3, 0, none⟩)], .string x.1, .int .i64 x.2, undef, undef, undef, undef, undef, undef, undef, undef, undef, undef, undef, undef, undef, undef, undef, undef, undef, undef, undef, undef, undef, undef, undef, undef, undef, undef, undef, undef, undef, undef, undef, undef, undef, undef, undef, undef, undef], defers := [] }) ?assign ?body ?done ?stop
  case assign =>
    intro l x W K hK
    unfold encD
    gi_wp2
    exact hK
  case body =>
    rintro l pre x W hI hlt
    obtain ⟨hKp, B5, B6, Bk, Bn, hB⟩ := hI
    have hI := Lib.hid (show FI w.heap.size (w.heap.size + 2) (b3 + 2) (b3 + 1 + 1) (b3 + 1 + 1 + 1) a most w wl pre W from ⟨hKp, B5, B6, Bk, Bn, hB⟩)
    have hstep := Lib.hid (fun vk vn => FI.step hI.out (by omega) (by omega) (by omega) (by omega) x (vk := vk) (vn := vn))
    have hKl : a + pre.length < G.length := by omega
    have hT : told G (vals G.length) a (pre.length + 1) = told G (vals G.length) a pre.length ++ [(nth G (a + pre.length), ((a + pre.length : Nat) : Int) + 10)] := by
      rw [told, vals_at _ _ hKl]
    have hTh := Lib.hid hT
    obtain ⟨ad, hA, hx⟩ := Kd.at_string (hCl W hKp) ((a + pre.length : Nat) : Int) (by omega) (by omega)
    have hx2 : W.cell? (ad.add (a + pre.length)) = some (.string (nth G (a + pre.length))) := hx
    have b7 : W.cell? ⟨B7, 0, none⟩ = some (.slice (some ad) G.length c1) := by rw [← hA]; exact (World.cell?_of_block (hKp B7 ⟨hB7, by omega⟩)).trans D7l.cell
    have c5 := B5.cell
    have c6 := B6.cell
    have f6 := B6.frozen
    have ck := Bk.cell
    have fk := Bk.frozen
    have cn := Bn.cell
    have fn := Bn.frozen
    have hml : pre.length ≤ 20 := by omega
    clear hT hx hB B5 B6 Bk Bn hKp hCl hDl hseq hI0 D7l
    generalize hKe : a + pre.length = K at *
    generalize hme : pre.length = m at *
    have hKb : K ≤ 20 := by omega
    have p0 := eq_true (show (0 : Int) ≤ (K : Int) by omega)
    have p1 := eq_true (show (K : Int) < (G.length : Int) by omega)
    have p2 : ¬ ((G.length : Int) ≤ (K : Int)) := by omega
    by_cases e1 : x.1.toList = (nth G K).toList
    · have e1b : (x.1.toList == (nth G K).toList) = true := by rw [e1]; simp
      by_cases e2 : x.2 = (K : Int) + 10
      · by_cases e3 : (m : Int) + 1 = most
        · have e3b : (((m : Int) + 1) == most) = true := by rw [e3]; simp
          gi_wp2
          exact ⟨((KeepsOthers.setCell _ _ _).trans (KeepsOthers.setCell _ _ _)).from _, (hstep.out _ _ (by omega) (by omega)).1, by rw [List.length_append, hme]; simpa using e3⟩
        · have e3b : (((m : Int) + 1) == most) = false := by rw [beq_eq_false_iff_ne]; exact e3
          gi_wp2
          exact ⟨((KeepsOthers.setCell _ _ _).trans (KeepsOthers.setCell _ _ _)).from _, (hstep.out _ _ (by omega) (by omega)).2, (hstep.out _ _ (by omega) (by omega)).1⟩
      · have e2b : (x.2 == (K : Int) + 10) = false := by rw [beq_eq_false_iff_ne]; exact e2
        gi_wp2
        refine ⟨(KeepsOthers.setCell _ _ _).from _, fun he => ?_⟩
        rw [show (pre ++ [x]).length = m + 1 by rw [List.length_append, hme]; rfl, hTh.out] at he
        have h2 := congrArg List.getLast? he
        simp only [List.getLast?_append, List.getLast?_singleton, Option.some_or, Option.some.injEq] at h2
        exact e2 (by rw [h2])
    · have e1b : (x.1.toList == (nth G K).toList) = false := by rw [beq_eq_false_iff_ne]; exact e1
      gi_wp2
      refine ⟨(KeepsOthers.setCell _ _ _).from _, fun he => ?_⟩
      rw [show (pre ++ [x]).length = m + 1 by rw [List.length_append, hme]; rfl, hTh.out] at he
      have h2 := congrArg List.getLast? he
      simp only [List.getLast?_append, List.getLast?_singleton, Option.some_or, Option.some.injEq] at h2
      exact e1 (by rw [h2])
  case done =>
    rintro D xs W hD2 rfl hI hK
    obtain ⟨hKp, B5, B6, Bk, Bn, hB⟩ := hI
    rw [told_len] at Bk Bn
    have hge : ((G.length : Int) ≤ ((a + (G.length - a) : Nat) : Int)) := by omega
    have b7 : W.cell? ⟨B7, 0, none⟩ = some (.slice A1 G.length c1) := (World.cell?_of_block (hKp B7 ⟨hB7, by omega⟩)).trans D7l.cell
    have c5 := B5.cell
    have c6 := B6.cell
    have f6 := B6.frozen
    have ck := Bk.cell
    have cn := Bn.cell
    clear hCl hDl hseq hI0 hKp Bk Bn B5
    generalize a + (G.length - a) = K at *
    gi_wp2_with fail
    all_goals
      refine ⟨trivial, (callsIn_wide.2 (lives_any W)).mono ?_⟩
      rintro e w9 ⟨rfl, hb9⟩
      have hK9 : w9.heap[D]? = some (.deferred (some [])) := (hb9.block D (Array.getElem?_eq_some_iff.1 hK).1).trans hK
      have B69 : Boxed w9 (w.heap.size + 1) 4 (.bool false) := (hb9.block _ B6.lt).trans B6
      have hB9 := hB.trans (hb9.mono hB.size)
      have d1 := B69.cell
      have d2 := B69.frozen
      gi_wp2_with fail
      refine ⟨by simp, .inl ⟨_, _, rfl, run_takeDeferred ((Below.heap_setCell w9 ⟨w.heap.size + 1, 0, none⟩ _ D (by show D ≠ w.heap.size + 1; omega)).trans hK9), ?_⟩⟩
      have B70 : Boxed ((w9.setCell ⟨w.heap.size + 1, 0, none⟩ (.bool true)).putObj D (.deferred none)) (w.heap.size + 1) 4 (.bool true) := (World.putObj_heap_other (by omega)).trans (B69.set (.bool true))
      have d3 := B70.cell
      exact ⟨.bool true, by simp [results, Try.results5, go_sem, d3], rfl, (hB9.setCell (p := ⟨w.heap.size + 1, 0, none⟩) (by show _ ≤ w.heap.size + 1; omega) _).trans (belowK_b (w := w) (Nat.le_refl _) _ D _ _ (by omega) ((Below.heap_setCell w9 ⟨w.heap.size + 1, 0, none⟩ (.bool true) D (by show D ≠ w.heap.size + 1; omega)).trans hK9) rfl rfl)⟩
  case stop =>
    intro D c pre W hD2 hSp hX hK
    obtain ⟨m, hm, rfl⟩ := hSp
    rcases FX.two hX with ⟨rfl, hne⟩ | ⟨rfl, ⟨hKp, B5, B6, Bk, Bn, hB⟩, hmost⟩
    · rw [told_len] at hne
      exact absurd rfl hne
    · rw [told_len] at Bk Bn hmost
      have b7 : W.cell? ⟨B7, 0, none⟩ = some (.slice A1 G.length c1) := (World.cell?_of_block (hKp B7 ⟨hB7, by omega⟩)).trans D7l.cell
      have c5 := B5.cell
      have c6 := B6.cell
      have f6 := B6.frozen
      have ck := Bk.cell
      have cn := Bn.cell
      clear hCl hDl hseq hI0 hKp Bk Bn B5
      generalize a + (m + 1) = K at *
      subst hmost
      gi_wp2_with fail
      all_goals
        refine ⟨trivial, (callsIn_wide.2 (lives_any W)).mono ?_⟩
        rintro e w9 ⟨rfl, hb9⟩
        have hK9 : w9.heap[D]? = some (.deferred (some [])) := (hb9.block D (Array.getElem?_eq_some_iff.1 hK).1).trans hK
        have B69 : Boxed w9 (w.heap.size + 1) 4 (.bool false) := (hb9.block _ B6.lt).trans B6
        have hB9 := hB.trans (hb9.mono hB.size)
        have d1 := B69.cell
        have d2 := B69.frozen
        gi_wp2_with fail
        refine ⟨by simp, .inl ⟨_, _, rfl, run_takeDeferred ((Below.heap_setCell w9 ⟨w.heap.size + 1, 0, none⟩ _ D (by show D ≠ w.heap.size + 1; omega)).trans hK9), ?_⟩⟩
        have B70 : Boxed ((w9.setCell ⟨w.heap.size + 1, 0, none⟩ (.bool true)).putObj D (.deferred none)) (w.heap.size + 1) 4 (.bool true) := (World.putObj_heap_other (by omega)).trans (B69.set (.bool true))
        have d3 := B70.cell
        exact ⟨.bool true, by simp [results, Try.results5, go_sem, d3], rfl, (hB9.setCell (p := ⟨w.heap.size + 1, 0, none⟩) (by show _ ≤ w.heap.size + 1; omega) _).trans (belowK_b (w := w) (Nat.le_refl _) _ D _ _ (by omega) ((Below.heap_setCell w9 ⟨w.heap.size + 1, 0, none⟩ (.bool true) D (by show D ≠ w.heap.size + 1; omega)).trans hK9) rfl rfl)⟩
theorem dictFrom_walk (A0 : Option Addr) (c0 : Nat) (l : List ByteArray) (i most : Int) (w : World) (hr0 : Kd.C Kd.string w A0 l.length l) (hc0 : l.length ≤ c0) (hi : (Lit.int .i64 i).wf = true) (_hm : (Lit.int .i64 most).wf = true) :
    Calls Try.prog 5 #[.slice A0 l.length c0, .int .i64 i, .int .i64 most] w fun e w' => e = .returned (.bool true) ∧ Below w.heap.size w w' := by
  have hnb : IntKind.i64.min ≤ i ∧ i ≤ IntKind.i64.max := by simpa [Lit.wf] using hi
  have hmin : IntKind.i64.min = -9223372036854775808 := rfl
  have hmax : IntKind.i64.max = 9223372036854775807 := rfl
  rw [hmin, hmax] at hnb
  exact callsIn_wide.1 (dictFrom_in A0 c0 l i most w hr0 hc0 hnb.1 hnb.2)
end Go.Proofs.Ytlghcfhmfbdidaa
