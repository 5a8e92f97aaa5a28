/- Dictionaries: Names. No condition. -/
import Derived.Test.YtlghcfhmfbdidaaFrom
import Derived.Test.YtlghcfhmfbdidaaMade
namespace Go.Proofs.Ytlghcfhmfbdidaa
open Go.RowKit Go.Shelf Go.Proofs.Ytlghcfhmfbdidaa.PAll Go.Proofs.YtlghcfhmfbdidaaW.PrintWords Go.Proofs.YtlghcfhmfbdidaaW.PrintLast Go.Proofs.YtlghcfhmfbdidaaW.PrintMore
attribute [local go_sem] Oper.semAt_some

theorem Kp.trans {S : Nat → Prop} {A B C : World} (h : Kp S A B) (k : Kp S B C) : Kp S A C := fun j hj => (k j hj).trans (h j hj)
theorem Kp.of_below {S : Nat → Prop} {n : Nat} {A B : World} (h : Below n A B) (hS : ∀ k, S k → k < n) : Kp S A B := fun k hk => h.block k (hS k hk)
/-- The iterator's contract, for a loop over it. -/
theorem from_seq (n : Nat) (Bi Bd g : Nat) (S : Nat → Prop) (i : Int) (ns : List ByteArray) (vs : List Int) (hv : vs.length = ns.length) (hn : ns.length ≤ 1000000) (w0 : World) (hi1 : -9223372036854775808 ≤ i) (hi2 : i ≤ 9223372036854775807)
    (hSi : S Bi) (hSd : S Bd) (hSl : ∀ k, S k → k < w0.heap.size)
    (hbi : w0.cell? ⟨Bi, 0, none⟩ = some (.int .i64 i)) (hbd : w0.cell? ⟨Bd, 0, none⟩ = some (.pointer (some ⟨g, 0, none⟩))) (hD : ∀ W', Kp S w0 W' → IsD W' g ns vs) :
    SeqStopsK Fence.wide n Try.prog 35 #[.pointer (some ⟨Bi, 0, none⟩), .pointer (some ⟨Bd, 0, none⟩)] encD (Kp S) (fun xs => xs = told ns vs i.toNat (ns.length - i.toNat)) (fun pre => ∃ m, m < ns.length - i.toNat ∧ pre = told ns vs i.toNat (m + 1)) (ns.length - i.toNat) w0 := by
  intro l J Jx W hW hJa _ hY h0
  have hK := Kp.of_below hW hSl
  refine (from1_in n l Bi Bd g S i ns vs hv hn J Jx W hJa hi1 hi2 hY h0 hSi hSd ((World.cell?_of_block (hK Bi hSi)).trans hbi) ((World.cell?_of_block (hK Bd hSd)).trans hbd) (fun W' h => hD W' (hK.trans h))).mono ?_
  rintro e W' ⟨hr, h | ⟨m, hm, h⟩⟩
  · exact ⟨hr, .inl ⟨_, rfl, h⟩⟩
  · exact ⟨hr, .inr ⟨_, ⟨m, hm, rfl⟩, h⟩⟩

theorem reads_same {α : Type} {enc : α → Value} {d : α} {w W : World} {A : Option Addr} {n : Nat} {xs : List α} (h : ReadsOf enc d w A n xs) (hs : ∀ k, k < w.heap.size → W.heap[k]? = w.heap[k]?) : ReadsOf enc d W A n xs := by
  refine ⟨h.1, h.2.1, fun hn => ?_⟩
  obtain ⟨ad, e, hc⟩ := h.2.2 hn
  exact ⟨ad, e, fun j hj => (World.cell?_of_block (hs _ (World.block_lt_of_cell? w _ (hc j hj)))).trans (hc j hj)⟩
theorem IsD.same {w W : World} {g : Nat} {ns : List ByteArray} {vs : List Int} (h : IsD w g ns vs) (hs : ∀ k, k < w.heap.size → W.heap[k]? = w.heap[k]?) : IsD W g ns vs := by
  obtain ⟨A0, c0, A1, c1, hg, h0, h1, hn, hv⟩ := h
  exact ⟨A0, c0, A1, c1, (hs g (Array.getElem?_eq_some_iff.1 hg).1).trans hg, h0, h1, Kd.C_of_reads (reads_same (d := ByteArray.empty) (Kd.reads_of_C hn) hs), Kd.C_of_reads (reads_same (d := (0 : Int)) (Kd.reads_of_C hv) hs)⟩
def encN (l : List (ByteArray × Int)) : List Value := l.map (fun x => .string x.1)
theorem ownsRow_blk {W : World} {base e sz k g : Nat} {v : Value} {xs : List Value} (h : W.ownsRow base e sz v k xs) (hg : v.ownBlock = some g) : base ≤ g ∧ g < W.heap.size ∧ ∃ cur, W.heap[g]? = some (.cells cur e (0, 0)) := by
  rcases h.2 with ⟨rfl, _⟩ | ⟨g', cap, cur, rfl, hb, hg', rest⟩
  · cases hg
  · obtain rfl : g' = g := by simpa [Value.ownBlock] using hg
    exact ⟨hb, (Array.getElem?_eq_some_iff.1 hg').1, cur, hg'⟩
/-- The box holds the names so far. -/
def NI (n₀ N1 Bo : Nat) (w : World) (pre : List (ByteArray × Int)) (W : World) : Prop :=
  (∃ vo, Boxed W Bo 22 vo ∧ W.ownsRow N1 9 1 vo pre.length (encN pre) ∧ True) ∧ Below n₀ w W ∧ N1 ≤ W.heap.size
theorem NI.own {n₀ N1 Bo B : Nat} {w : World} (hn : n₀ ≤ B) (hw : n₀ ≤ w.heap.size) : OwnFrom B (NI n₀ N1 Bo w) := by
  intro s X Y row hs hg hr
  exact ⟨holdsRow_own N1 Bo 22 9 1 (fun s : List (ByteArray × Int) => s.length) encN (fun _ _ => True) s X Y row hs.1 hg (fun r e => (hr r e).2), hs.2.1.grown hg (Nat.le_trans hw hs.2.1.size) (fun k e => Nat.le_trans hn (hr k e).1), Nat.le_trans hs.2.2 hg.size⟩
/-- Behind the append of one name, and the store into the box. -/
theorem name_appended {n₀ N1 Bo : Nat} {wE W w1 : World} {pre : List (ByteArray × Int)} {vo v' : Value} {x : ByteArray × Int} {tmp : Obj} (hn : n₀ ≤ Bo) (hN : Bo < N1) (hW : N1 ≤ W.heap.size) (hbo : Boxed W Bo 22 vo) (hro : W.ownsRow N1 9 1 vo pre.length (encN pre)) (hB : Below n₀ wE W)
    (hown : w1.ownsRow N1 9 1 v' (pre.length + 1) (encN pre ++ [.string x.1])) (hg : (W.alloc tmp).grownBy w1 vo.ownBlock) :
    Boxed w1 Bo 22 vo ∧ KeepsFrom N1 W (w1.setCell ⟨Bo, 0, none⟩ v') ∧ (∀ k, k < N1 → k ≠ Bo → (w1.setCell ⟨Bo, 0, none⟩ v').heap[k]? = W.heap[k]?) ∧ NI n₀ N1 Bo wE (pre ++ [x]) (w1.setCell ⟨Bo, 0, none⟩ v') := by
  have hv1 : Boxed w1 Bo 22 vo := (hbo.alloc tmp).kept hg (hbo.not_row (by decide) hro)
  have hr2 := hown.kept (grownBy_setCell' w1 Bo v') (.inr (hv1.not_row (by decide) hown).symm)
  have hblk : ∀ g, vo.ownBlock = some g → N1 ≤ g := fun g hg' => (ownsRow_blk hro hg').1
  have hB2 : Below n₀ W (w1.setCell ⟨Bo, 0, none⟩ v') :=
    (((Below.refl n₀ W).alloc (by omega) tmp).grown hg (by simp; omega) (fun k hk => by have := hblk k hk; omega)).setCell (p := ⟨Bo, 0, none⟩) hn v'
  refine ⟨hv1, ?_, ?_, ⟨⟨v', hv1.set v', ?_, trivial⟩, hB.trans hB2, Nat.le_trans hW hB2.size⟩⟩
  · refine ((((KeepsOthers.alloc W tmp).trans (KeepsOthers.of_grownBy hg fun j o ej hj => ?_)).trans (KeepsOthers.setCell _ _ _))).from _
    obtain ⟨_, _, cur, hc⟩ := ownsRow_blk (hro.alloc tmp) ej
    rw [hc] at hj; cases hj; rfl
  · intro k hk hkB
    exact (Below.heap_setCell w1 ⟨Bo, 0, none⟩ v' k hkB).trans ((hg.block k (by simp; omega) (fun e => by have := hblk k e.symm; omega)).trans (Below.heap_alloc _ _ _ (by omega)))
  · have e : encN (pre ++ [x]) = encN pre ++ [.string x.1] := by unfold encN; rw [List.map_append]; rfl
    rw [e, List.length_append]
    exact hr2
theorem told_names (ns : List ByteArray) (vs : List Int) : ∀ m, m ≤ ns.length → (told ns vs 0 m).map Prod.fst = ns.take m
  | 0, _ => by simp [told]
  | m + 1, h => by
    unfold told
    rw [List.map_append, told_names ns vs m (by omega), List.take_succ_eq_append_getElem (by omega), Nat.zero_add]
    simp [nth_eq ns m (by omega)]
theorem encN_names (ns : List ByteArray) (vs : List Int) : encN (told ns vs 0 ns.length) = encs Value.string ns := by
  have h := told_names ns vs ns.length (Nat.le_refl _)
  rw [List.take_length] at h
  unfold encN encs
  rw [← h, List.map_map, h]
  rfl
theorem infoStrN : (Try.prog.info? 9).map (fun i => (i.zero, i.size, i.bytes)) = some (some (.string ⟨#[]⟩), 1, 16) := by kernel_rfl

set_option maxRecDepth 100000 in
set_option maxHeartbeats 4000000 in
theorem names_in (g : Nat) (ns : List ByteArray) (vs : List Int) (hv : vs.length = ns.length) (hn : ns.length ≤ 1000000) (w : World) (hD : IsD w g ns vs) :
    CallsIn Fence.wide 9 Try.prog 24 #[.pointer (some ⟨g, 0, none⟩)] w fun e w' => ∃ v, e = .returned v ∧ w'.ownsRow w.heap.size 9 1 v ns.length (encs Value.string ns) ∧ Below w.heap.size w w' := by
  obtain ⟨i0, hi, hz0, hz1, hz2⟩ := info_parts infoStrN
  refine callsIn_of_wp_marks Try.func24 rfl trivial ?_ rfl
  simp only [Try.ntmps24, List.size_toArray, List.length_cons, List.length_nil, Nat.reduceAdd, Nat.reduceSub, Array.replicate_succ, Array.replicate_zero, List.push_toArray, List.append_toArray, List.nil_append, List.cons_append]
  gi_wp2_with fail
  refine ⟨trivial, (from_in _ g 0 _).mono ?_⟩
  rintro e w1 ⟨rfl, rfl⟩
  gi_wp2_with fail
  obtain ⟨wl, hwl⟩ : ∃ wl, ((w.alloc (.cells #[.slice none 0 0] 22)).alloc (.cells #[.pointer (some ⟨g, 0, none⟩)] 24)).alloc (.cells #[.int .i64 0] 3) = wl := ⟨_, rfl⟩
  have hsz : w.heap.size + 3 ≤ wl.heap.size := by rw [← hwl]; simp
  have hbl : Below w.heap.size w wl := by rw [← hwl]; exact (((Below.refl _ w).alloc (Nat.le_refl _) _).alloc (by simp) _).alloc (by simp; omega) _
  have B0 : Boxed wl w.heap.size 22 (.slice none 0 0) := by rw [← hwl]; exact ((Boxed.new w _ _).alloc _).alloc _
  have B1 : Boxed wl (w.heap.size + 1) 24 (.pointer (some ⟨g, 0, none⟩)) := by
    rw [← hwl]
    have h := Boxed.new (w.alloc (.cells #[.slice none 0 0] 22)) 24 (.pointer (some ⟨g, 0, none⟩))
    rw [World.size_alloc] at h
    exact h.alloc _
  have B2 : Boxed wl (w.heap.size + 1 + 1) 3 (.int .i64 0) := by
    rw [← hwl]
    have h := Boxed.new ((w.alloc (.cells #[.slice none 0 0] 22)).alloc (.cells #[.pointer (some ⟨g, 0, none⟩)] 24)) 3 (.int .i64 0)
    rw [World.size_alloc, World.size_alloc] at h
    exact h
  have hI0 : NI w.heap.size wl.heap.size w.heap.size w [] wl := ⟨⟨_, B0, World.ownsRow_nil _ _ _ _, trivial⟩, hbl, Nat.le_refl _⟩
  have hseq := from_seq 8 (w.heap.size + 1 + 1) (w.heap.size + 1) g (fun k => k < w.heap.size ∨ k = w.heap.size + 1 ∨ k = w.heap.size + 1 + 1) 0 ns vs hv hn wl (by omega) (by omega) (.inr (.inr rfl)) (.inr (.inl rfl)) (fun k hk => by omega) B2.cell B1.cell
    (fun W' hk => hD.same (fun k hlt => (hk k (.inl hlt)).trans (hbl.block k hlt)))
  rw [show (0 : Int).toNat = 0 from rfl, Nat.sub_zero] at hseq
  rw [hwl]
  refine wpIn_rangeFunc_ownG (F := Fence.wide) (n := 9) rfl (by decide) (gf := 35) (lb := #[.pointer (some ⟨w.heap.size + 1 + 1, 0, none⟩), .pointer (some ⟨w.heap.size + 1, 0, none⟩)]) rfl trivial (enters_of Try.func35 (by kernel_rfl) rfl)
    hseq (fun h k => Kp.trans h k) (fun W l o o' hl _ _ _ => fun k hk => World.putObj_heap_other (by omega)) (Below.refl _ _) (fun _ => rfl)
    (NI w.heap.size wl.heap.size w.heap.size w) (fun _ _ _ => False) (NI.own (by omega) (Nat.le_refl _)) (fun _ _ _ _ _ h => h.elim) hI0
    (fun x => { tmps := #[.pointer (some ⟨g, 0, none⟩), undef, .slice none 0 0, .pointer (some ⟨w.heap.size, 0, none⟩), .string x.1, .pointer (some ⟨g, 0, none⟩), .func (.func 35) #[] #[.pointer (some ⟨w.heap.size + 1 + 1, 0, none⟩), .pointer (some ⟨w.heap.size + 1, 0, none⟩)], .string x.1, .int .i64 x.2, undef, undef, undef, undef, undef], defers := [] }) ?assign ?body ?done ?stop
  case assign =>
    intro l x W K hK
    unfold encD
    gi_wp2
    exact hK
  case body =>
    rintro l pre x W ⟨⟨vo, hbo, hro, -⟩, hB, hWs⟩ hlt
    have c1 := hbo.cell
    gi_wp2_with (gi_at_builtin; refine wpListIn_append_own _ rfl _ _ 22 rfl wl.heap.size 9 i0 (.string ⟨#[]⟩) 1 16 Try.underlying22 hi hz0 hz1 hz2 rfl (by decide) _ _ _ rfl (hro.alloc _) ⟨W.heap.size, 0, none⟩ 1 1 [.string x.1] rfl rfl ?c1 ?c2 ?c3 ?c4 ?c5 ?_)
    case c1 =>
      intro j u hj
      match j with
      | 0 =>
        simp only [List.getElem?_cons_zero, Option.some.injEq] at hj
        subst hj
        rw [add_none]
        simp [go_sem]
      | j + 1 => simp at hj
    case c2 => simp [Value.oneCell']
    case c3 => unfold maxLen; omega
    case c4 => omega
    case c5 => simp; omega
    intro v' w2 hown hgrow _
    obtain ⟨g', cap', rfl⟩ := ownsRow_succ hown
    obtain ⟨d1, d2, d3, d4⟩ := name_appended (Nat.le_refl _) (by omega) hWs hbo hro hB hown hgrow
    have e1 := d1.cell
    have e2 := d1.frozen
    gi_wp2
    exact ⟨d2, fun k hk => d3 k (by omega) (by omega), d4⟩
  case done =>
    rintro D xs W hD2 rfl ⟨⟨vo, hbo, hro, -⟩, hB, _⟩ hK
    have hc := hbo.cell
    rw [told_len, encN_names] at hro
    gi_wp2
    refine ⟨by simp, .inl ⟨_, _, rfl, run_takeDeferred hK, ?_⟩⟩
    exact ⟨_, results_tmp rfl _ _ _, vo, rfl, own_weaken (ownsRow_putObj hro _ hK rfl) (by omega), hB.trans (belowK_b (w := w) (Nat.le_refl _) W D _ _ (by omega) hK rfl rfl)⟩
  case stop =>
    intro D c pre W _ _ h _
    exact h.elim
theorem names_any (g : Nat) (ns : List ByteArray) (vs : List Int) (hv : vs.length = ns.length) (hn : ns.length ≤ 1000000) (w : World) (hD : IsD w g ns vs) :
    Calls Try.prog 24 #[.pointer (some ⟨g, 0, none⟩)] w fun e w' => ∃ v, e = .returned v ∧ Kd.R Kd.string 9 w' w.heap.size (fun _ => True) v ns ∧ Below w.heap.size w w' := by
  refine (callsIn_wide.1 (names_in g ns vs hv hn w hD)).mono ?_
  rintro e w' ⟨v, rfl, ho, hb⟩
  exact ⟨v, rfl, Kd.R_of_own (enc := Value.string) ho (fun _ _ => trivial), hb⟩
end Go.Proofs.Ytlghcfhmfbdidaa
