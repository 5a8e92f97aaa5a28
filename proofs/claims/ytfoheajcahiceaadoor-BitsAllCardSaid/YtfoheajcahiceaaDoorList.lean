/- Sets of numbers as bits: List. Condition: the library's table is as its initialiser lays it. -/
import Derived.Test.YtfoheajcahiceaaDoorAll
namespace Go.Proofs.YtfoheajcahiceaaDoor
open Go.RowKit Go.Shelf Go.Proofs.YtfoheajcahiceaaDoor.PAll Go.Proofs.YtfoheajcahiceaaDoorW.PrintWords Go.Proofs.YtfoheajcahiceaaDoorW.PrintLast Go.Proofs.YtfoheajcahiceaaDoorW.PrintMore
attribute [local go_sem] Oper.semAt_some

def encN (l : List Int) : List Value := l.map (fun x => .int .i64 x)
theorem ownsRow_blk {W : World} {base e sz k g : Nat} {v : Value} {xs : List Value} (h : W.ownsRow base e sz v k xs) (hg : v.ownBlock = some g) : base ≤ g ∧ g < W.heap.size ∧ ∃ cur, W.heap[g]? = some (.cells cur e (0, 0)) := by
  rcases h.2 with ⟨rfl, _⟩ | ⟨g', cap, cur, rfl, hb, hg', rest⟩
  · cases hg
  · obtain rfl : g' = g := by simpa [Value.ownBlock] using hg
    exact ⟨hb, (Array.getElem?_eq_some_iff.1 hg').1, cur, hg'⟩
/-- The box holds the names so far. -/
def NI (n₀ N1 Bo : Nat) (w : World) (pre : List Int) (W : World) : Prop :=
  (∃ vo, Boxed W Bo 36 vo ∧ W.ownsRow N1 3 1 vo pre.length (encN pre) ∧ True) ∧ Below n₀ w W ∧ N1 ≤ W.heap.size
theorem NI.own {n₀ N1 Bo B : Nat} {w : World} (hn : n₀ ≤ B) (hw : n₀ ≤ w.heap.size) : OwnFrom B (NI n₀ N1 Bo w) := by
  intro s X Y row hs hg hr
  exact ⟨holdsRow_own N1 Bo 36 3 1 (fun s : List Int => s.length) encN (fun _ _ => True) s X Y row hs.1 hg (fun r e => (hr r e).2), hs.2.1.grown hg (Nat.le_trans hw hs.2.1.size) (fun k e => Nat.le_trans hn (hr k e).1), Nat.le_trans hs.2.2 hg.size⟩
/-- Behind the append of one name, and the store into the box. -/
theorem name_appended {n₀ N1 Bo : Nat} {wE W w1 : World} {pre : List Int} {vo v' : Value} {x : Int} {tmp : Obj} (hn : n₀ ≤ Bo) (hN : Bo < N1) (hW : N1 ≤ W.heap.size) (hbo : Boxed W Bo 36 vo) (hro : W.ownsRow N1 3 1 vo pre.length (encN pre)) (hB : Below n₀ wE W)
    (hown : w1.ownsRow N1 3 1 v' (pre.length + 1) (encN pre ++ [.int .i64 x])) (hg : (W.alloc tmp).grownBy w1 vo.ownBlock) :
    Boxed w1 Bo 36 vo ∧ KeepsFrom N1 W (w1.setCell ⟨Bo, 0, none⟩ v') ∧ (∀ k, k < N1 → k ≠ Bo → (w1.setCell ⟨Bo, 0, none⟩ v').heap[k]? = W.heap[k]?) ∧ NI n₀ N1 Bo wE (pre ++ [x]) (w1.setCell ⟨Bo, 0, none⟩ v') := by
  have hv1 : Boxed w1 Bo 36 vo := (hbo.alloc tmp).kept hg (hbo.not_row (by decide) hro)
  have hr2 := hown.kept (grownBy_setCell' w1 Bo v') (.inr (hv1.not_row (by decide) hown).symm)
  have hblk : ∀ g, vo.ownBlock = some g → N1 ≤ g := fun g hg' => (ownsRow_blk hro hg').1
  have hB2 : Below n₀ W (w1.setCell ⟨Bo, 0, none⟩ v') :=
    (((Below.refl n₀ W).alloc (by omega) tmp).grown hg (by simp; omega) (fun k hk => by have := hblk k hk; omega)).setCell (p := ⟨Bo, 0, none⟩) hn v'
  refine ⟨hv1, ?_, ?_, ⟨⟨v', hv1.set v', ?_, trivial⟩, hB.trans hB2, Nat.le_trans hW hB2.size⟩⟩
  · refine ((((KeepsOthers.alloc W tmp).trans (KeepsOthers.of_grownBy hg fun j o ej hj => ?_)).trans (KeepsOthers.setCell _ _ _))).from _
    obtain ⟨_, _, cur, hc⟩ := ownsRow_blk (hro.alloc tmp) ej
    rw [hc] at hj; cases hj; rfl
  · intro k hk hkB
    exact (Below.heap_setCell w1 ⟨Bo, 0, none⟩ v' k hkB).trans ((hg.block k (by simp; omega) (fun e => by have := hblk k e.symm; omega)).trans (Below.heap_alloc _ _ _ (by omega)))
  · have e : encN (pre ++ [x]) = encN pre ++ [.int .i64 x] := by unfold encN; rw [List.map_append]; rfl
    rw [e, List.length_append]
    exact hr2
theorem infoIntL : (Tryd.prog.info? 3).map (fun i => (i.zero, i.size, i.bytes)) = some (some (.int .i64 0), 1, 8) := by kernel_rfl

set_option maxRecDepth 100000 in
set_option maxHeartbeats 4000000 in
theorem list_in (base g : Nat) (v : Value) (r : List Bool) (hl : r.length ≤ 100000) (w : World) (hD : IsSet w base g v r) (hT : Tab w) :
    CallsIn Fence.wide 9 Tryd.prog 32 #[.pointer (some ⟨g, 0, none⟩)] w fun e w' => ∃ u, e = .returned u ∧ w'.ownsRow w.heap.size 3 1 u (insN r r.length).length (encN (insN r r.length)) ∧ Below w.heap.size w w' := by
  obtain ⟨i0, hi, hz0, hz1, hz2⟩ := info_parts infoIntL
  refine callsIn_of_wp_marks Tryd.func32 rfl trivial ?_ rfl
  simp only [Tryd.ntmps32, List.size_toArray, List.length_cons, List.length_nil, Nat.reduceAdd, Nat.reduceSub, Array.replicate_succ, Array.replicate_zero, List.push_toArray, List.append_toArray, List.nil_append, List.cons_append]
  gi_wp2_with fail
  refine ⟨trivial, (all_in _ g _).mono ?_⟩
  rintro e w1 ⟨rfl, rfl⟩
  gi_wp2_with fail
  obtain ⟨wl, hwl⟩ : ∃ wl, (w.alloc (.cells #[.slice none 0 0] 36)).alloc (.cells #[.pointer (some ⟨g, 0, none⟩)] 23) = wl := ⟨_, rfl⟩
  have hsz : w.heap.size + 2 ≤ wl.heap.size := by rw [← hwl]; simp
  have hbl : Below w.heap.size w wl := by rw [← hwl]; exact ((Below.refl _ w).alloc (Nat.le_refl _) _).alloc (by simp) _
  have B0 : Boxed wl w.heap.size 36 (.slice none 0 0) := by rw [← hwl]; exact (Boxed.new w _ _).alloc _
  have B1 : Boxed wl (w.heap.size + 1) 23 (.pointer (some ⟨g, 0, none⟩)) := by
    rw [← hwl]
    have h := Boxed.new (w.alloc (.cells #[.slice none 0 0] 36)) 23 (.pointer (some ⟨g, 0, none⟩))
    rw [World.size_alloc] at h
    exact h
  have hI0 : NI w.heap.size wl.heap.size w.heap.size w [] wl := ⟨⟨_, B0, World.ownsRow_nil _ _ _ _, trivial⟩, hbl, Nat.le_refl _⟩
  have hseq := all_seq 8 (w.heap.size + 1) base g v (fun k => k < w.heap.size ∨ k = w.heap.size + 1) r hl wl (.inr rfl) (fun k hk => by omega) B1.cell
    (fun W' hk => ⟨hD.move (fun k _ hlt => (hk k (.inl hlt)).trans (hbl.block k hlt)), fun j hj => (World.cell?_of_block (w := w) ((hk _ (.inl hT.lt)).trans (hbl.block _ hT.lt))).trans (hT j hj)⟩)
  rw [hwl]
  refine wpIn_rangeFunc_ownG (F := Fence.wide) (n := 9) rfl (by decide) (gf := 40) (lb := #[.pointer (some ⟨w.heap.size + 1, 0, none⟩)]) rfl trivial (enters_of Tryd.func40 (by kernel_rfl) rfl)
    hseq (fun h k => Kp.trans h k) (fun W l o o' hl _ _ _ => fun k hk => World.putObj_heap_other (by omega)) (Below.refl _ _) (fun _ => rfl)
    (NI w.heap.size wl.heap.size w.heap.size w) (fun _ _ _ => False) (NI.own (by omega) (Nat.le_refl _)) (fun _ _ _ _ _ h => h.elim) hI0
    (fun x => { tmps := #[.pointer (some ⟨g, 0, none⟩), undef, .slice none 0 0, .pointer (some ⟨w.heap.size, 0, none⟩), .int .i64 x, .pointer (some ⟨g, 0, none⟩), .func (.func 40) #[] #[.pointer (some ⟨w.heap.size + 1, 0, none⟩)], .int .i64 x, undef, undef, undef, undef, undef], defers := [] }) ?assign ?body ?done ?stop
  case assign =>
    intro l x W K hK
    unfold encI
    gi_wp2
    exact hK
  case body =>
    rintro l pre x W ⟨⟨vo, hbo, hro, -⟩, hB, hWs⟩ hlt
    have hc := cnt_le r r.length
    have c1 := hbo.cell
    gi_wp2_with (gi_at_builtin; refine wpListIn_append_own _ rfl _ _ 36 rfl wl.heap.size 3 i0 (.int .i64 0) 1 8 Tryd.underlying36 hi hz0 hz1 hz2 rfl (by decide) _ _ _ rfl (hro.alloc _) ⟨W.heap.size, 0, none⟩ 1 1 [.int .i64 x] rfl rfl ?c1 ?c2 ?c3 ?c4 ?c5 ?_)
    case c1 =>
      intro j u hj
      match j with
      | 0 =>
        simp only [List.getElem?_cons_zero, Option.some.injEq] at hj
        subst hj
        rw [add_none]
        simp [go_sem]
      | j + 1 => simp at hj
    case c2 => simp [Value.oneCell']
    case c3 => unfold maxLen; omega
    case c4 => omega
    case c5 => simp; omega
    intro v' w2 hown hgrow _
    obtain ⟨g', cap', rfl⟩ := ownsRow_succ hown
    obtain ⟨d1, d2, d3, d4⟩ := name_appended (Nat.le_refl _) (by omega) hWs hbo hro hB hown hgrow
    have e1 := d1.cell
    have e2 := d1.frozen
    gi_wp2
    exact ⟨d2, fun k hk => d3 k (by omega) (by omega), d4⟩
  case done =>
    rintro D xs W hD2 rfl ⟨⟨vo, hbo, hro, -⟩, hB, _⟩ hK
    have hc := hbo.cell
    gi_wp2
    refine ⟨by simp, .inl ⟨_, _, rfl, run_takeDeferred hK, ?_⟩⟩
    exact ⟨_, results_tmp rfl _ _ _, vo, rfl, own_weaken (ownsRow_putObj hro _ hK rfl) (by omega), hB.trans (belowK_b (w := w) (Nat.le_refl _) W D _ _ (by omega) hK rfl rfl)⟩
  case stop =>
    intro D c pre W _ _ h _
    exact h.elim
theorem encN_eq (l : List Int) : encN l = encs (Value.int .i64) l := rfl
theorem list_any (base g : Nat) (v : Value) (r : List Bool) (hl : r.length ≤ 100000) (w : World) (hD : IsSet w base g v r) (hT : Tab w) :
    Calls Tryd.prog 32 #[.pointer (some ⟨g, 0, none⟩)] w fun e w' => ∃ u, e = .returned u ∧ Kd.R (Kd.int .i64) 3 w' w.heap.size (fun _ => True) u (insN r r.length) ∧ Below w.heap.size w w' := by
  refine (callsIn_wide.1 (list_in base g v r hl w hD hT)).mono ?_
  rintro e w' ⟨u, rfl, ho, hb⟩
  exact ⟨u, rfl, Kd.R_of_own (enc := Value.int .i64) ho (fun _ _ => trivial), hb⟩
end Go.Proofs.YtfoheajcahiceaaDoor
