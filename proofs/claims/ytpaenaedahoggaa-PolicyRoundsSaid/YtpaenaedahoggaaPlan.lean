import Derived.Test.YtpaenaedahoggaaRuns
/-! policy.Plan: the runs that are merged. -/
namespace Go.Proofs.Ytpaenaedahoggaa
open Go.RowKit Go.Shelf Go.Proofs.Ytpaenaedahoggaa.PAll Go.Proofs.YtpaenaedahoggaaW.PrintWords Go.Proofs.YtpaenaedahoggaaW.PrintLast Go.Proofs.YtpaenaedahoggaaW.PrintMore
attribute [local go_sem] Oper.semAt_some

theorem runs_in (n : Nat) (A0 : Option Addr) (m c0 : Nat) (a b : Int) (w : World) :
    CallsIn Fence.wide n Try.prog 26 #[.slice A0 m c0, .int .i64 a, .int .i64 b] w fun e w' =>
      e = .returned (.func (.func 28) #[] #[.pointer (some ⟨w.heap.size, 0, none⟩), .pointer (some ⟨w.heap.size + 1, 0, none⟩), .pointer (some ⟨w.heap.size + 2, 0, none⟩)]) ∧
      w' = ((w.alloc (.cells #[.slice A0 m c0] 22)).alloc (.cells #[.int .i64 a] 3)).alloc (.cells #[.int .i64 b] 3) := by
  refine callsIn_of_wp Try.func26 rfl trivial ?_ rfl
  simp only [Try.ntmps26, List.size_toArray, List.length_cons, List.length_nil, Nat.reduceAdd, Nat.reduceSub, Array.replicate_succ, Array.replicate_zero, List.push_toArray, List.append_toArray, List.nil_append, List.cons_append]
  gi_wp2
  go_ret
  exact ⟨rfl, rfl⟩

def encS (l : List S25) : List Value := l.flatMap (fun x => [.int .i64 x.f0, .int .i64 x.f1])
theorem encS_snoc (l : List S25) (x : S25) : encS (l ++ [x]) = encS l ++ [.int .i64 x.f0, .int .i64 x.f1] := by unfold encS; rw [List.flatMap_append]; rfl
theorem encS_reps (w : World) (base : Nat) (ok : Nat → Prop) : ∀ l : List S25, Reps (k25.M w base ok) 2 l (encS l) := by
  intro l
  suffices h : ∀ (r pre : List S25), Reps (k25.M w base ok) 2 pre (encS pre) → Reps (k25.M w base ok) 2 (pre ++ r) (encS (pre ++ r)) from h l [] (Reps.none _ _)
  intro r
  induction r with
  | nil => intro pre h; rwa [List.append_nil]
  | cons x r ih =>
    intro pre h
    have := ih (pre ++ [x]) (by rw [encS_snoc]; exact h.snoc (k25_mkM w base ok x) rfl)
    rwa [List.append_assoc] at this

/-- Between two rounds: the box holds the runs so far. -/
def PI (n₀ N1 Bo : Nat) (w : World) (pre : List S25) (W : World) : Prop :=
  (∃ vo, Boxed W Bo 37 vo ∧ W.ownsRow N1 25 2 vo pre.length (encS pre)) ∧ Below n₀ w W

theorem PI.put {n₀ N1 Bo l : Nat} {w W : World} {pre : List S25} {o : Obj} (h : PI n₀ N1 Bo w pre W) (hl : W.heap[l]? = some o) (ho : o.isCells = false) (hn : n₀ ≤ l) (o' : Obj) : PI n₀ N1 Bo w pre (W.putObj l o') := by
  obtain ⟨⟨vo, hb, hr⟩, hB⟩ := h
  refine ⟨⟨vo, ?_, ownsRow_putObj hr o' hl ho⟩, ?_⟩
  · refine (World.putObj_heap_other (fun e' => ?_)).trans hb
    have h2 := (show W.heap[Bo]? = _ from hb)
    rw [e', hl] at h2
    cases h2
    cases ho
  · exact hB.trans ⟨rfl, rfl, rfl, by simp, fun k hk => World.putObj_heap_other (by omega)⟩
theorem PI.alloc {n₀ N1 Bo : Nat} {w W : World} {pre : List S25} (h : PI n₀ N1 Bo w pre W) (hn : n₀ ≤ W.heap.size) (o : Obj) : PI n₀ N1 Bo w pre (W.alloc o) := by
  obtain ⟨⟨vo, hb, hr⟩, hB⟩ := h
  exact ⟨⟨vo, hb.alloc o, hr.alloc o⟩, hB.alloc hn o⟩
theorem ownsRow_same {W W' : World} {base e sz k : Nat} {v : Value} {xs : List Value} (h : W.ownsRow base e sz v k xs) (hs : ∀ g, v.ownBlock = some g → W'.heap[g]? = W.heap[g]?) : W'.ownsRow base e sz v k xs := by
  refine ⟨h.1, ?_⟩
  rcases h.2 with hn | ⟨g, cap, cur, rfl, hb, hg, rest⟩
  · exact .inl hn
  · exact .inr ⟨g, cap, cur, rfl, hb, (hs g rfl).trans hg, rest⟩
theorem ownsRow_blk {W : World} {base e sz k g : Nat} {v : Value} {xs : List Value} (h : W.ownsRow base e sz v k xs) (hg : v.ownBlock = some g) : base ≤ g ∧ g < W.heap.size ∧ ∃ cur, W.heap[g]? = some (.cells cur e (0, 0)) := by
  rcases h.2 with ⟨rfl, _⟩ | ⟨g', cap, cur, rfl, hb, hg', rest⟩
  · cases hg
  · obtain rfl : g' = g := by simpa [Value.ownBlock] using hg
    exact ⟨hb, (Array.getElem?_eq_some_iff.1 hg').1, cur, hg'⟩
theorem PI.keep {n₀ N1 Bo Bs : Nat} {w W W' : World} {pre : List S25} (h : PI n₀ N1 Bo w pre W) (hk : Keep1 W.heap.size Bs W W') (hne : Bo ≠ Bs) (hN : Bs < N1) (hnB : n₀ ≤ Bs) (hn : n₀ ≤ W.heap.size) : PI n₀ N1 Bo w pre W' := by
  obtain ⟨⟨vo, hb, hr⟩, hB⟩ := h
  refine ⟨⟨vo, (hk.2 _ hb.lt hne).trans hb, ownsRow_same hr (fun g hg => by have := ownsRow_blk hr hg; exact hk.2 g this.2.1 (by omega))⟩, hB.trans ?_⟩
  exact ⟨hk.1.os, hk.1.tape, hk.1.output, hk.1.size, fun k hlt => hk.2 k (by omega) (by omega)⟩
/-- What a round turns: the box, and the row that it holds. -/
def KB (Bo : Nat) (W W' : World) : Prop := Below 0 W W' ∧ ∀ vo, Boxed W Bo 37 vo → ∀ k, k < W.heap.size → k ≠ Bo → some k ≠ vo.ownBlock → W'.heap[k]? = W.heap[k]?

set_option maxHeartbeats 1000000 in
/-- A range over an iterator that keeps a box of its own, the body of which collects what comes. -/
theorem rangeFunc_runs {P : Program} {g : Operand} {ps : Array Tmp} {assign body : Code} {Q : Exit → Act → World → Prop} {a : Act} {w wE : World} (n : Nat) (h1 : 1 ≤ n) {gf : Nat} {lb : Array Value} (hg : a.eval g = .func (.func gf) #[] lb) (eg : ∀ args w, (callFunc gf args).run P w = .ok (.enter gf args) w)
    (encs : S25 → Array Value) (hps : ∀ x, (encs x).size = ps.size) (n₀ Bo Bs Bm Bd : Nat) (xs : List S25) (hn : n₀ ≤ Bo) (hBo : Bo < w.heap.size) (hBs : Bs < w.heap.size) (hBm : Bm < w.heap.size) (hBd : Bd < w.heap.size) (hne : Bo ≠ Bs) (hne2 : Bo ≠ Bm) (hne3 : Bo ≠ Bd) (hnB : n₀ ≤ Bs)
    (hseq : ∀ (l : Nat) (J : List S25 → World → Prop) (W : World), Below w.heap.size w W →
      (∀ pre x W0 W1, J pre W0 → Keep1 W0.heap.size Bs W0 W1 → (∃ s, Boxed W1 Bs 22 s) → pre.length < xs.length → YieldAt Fence.wide (n - 1 - 1) P l (encs x) W1 fun e W' => e = .returned (.bool true) ∧ J (pre ++ [x]) W' ∧ KpX n₀ Bs Bm Bd W0 W1 W') →
      J [] W → CallsIn Fence.wide (n - 1) P gf (#[.func (.yield l) #[] #[]] ++ lb) W fun e W' => (∃ v, e = .returned v) ∧ ∃ W0, J xs W0 ∧ Keep1 W0.heap.size Bs W0 W')
    (h0 : PI n₀ w.heap.size Bo wE [] w) (a₁ : S25 → Nat → Act)
    (hassign : ∀ (l : Nat) (x : S25) (W : World) (K : Act → World → Prop), K (a₁ x W.heap.size) (W.alloc (.cells #[.int .i64 x.f0, .int .i64 x.f1] 25)) →
      assign.wpIn (Fence.wide.inRound l) (n - 1 - 1) P (Exit.then K (fun _ _ _ => False)) { tmps := (ps.zip (encs x)).foldl (fun t (p, v) => t.setIfInBounds p v) a.tmps, defers := [] } W)
    (hbody : ∀ (l : Nat) (pre : List S25) (x : S25) (rb : Nat) (W : World), PI n₀ w.heap.size Bo wE pre W → Two W rb 25 (.int .i64 x.f0) (.int .i64 x.f1) → w.heap.size ≤ W.heap.size → pre.length < xs.length →
      body.wpIn (Fence.wide.inRound l) (n - 1 - 1) P (ownPostG w.heap.size (KB Bo) (PI n₀ w.heap.size Bo wE) (fun _ _ _ => False) (pre ++ [x]) W) (a₁ x rb) W)
    (hdone : ∀ (D : Nat) (W : World), w.heap.size ≤ D → PI n₀ w.heap.size Bo wE xs W → W.heap[D]? = some (.deferred (some [])) → Q .normal { a with defers := { target := .collected D, args := #[] } :: a.defers } W) :
    (Code.rangeFunc g ps assign body).wpIn Fence.wide n P Q a w := by
  refine wpIn_rangeFunc ?_
  intro fn hfn
  rw [show Fence.wide.round = none from rfl]
  obtain ⟨rec, hrec⟩ : ∃ rec : LoopState → Option Code → Loop, rec = fun st pe => { state := st, pending := pe, fn, tmps := a.tmps, params := ps, assign, body, defers := w.heap.size } := ⟨_, rfl⟩
  obtain ⟨W1, hW1⟩ : ∃ W1, (w.alloc (.deferred (some []))).alloc (.loop (rec .ready none)) = W1 := ⟨_, rfl⟩
  have hL1 : W1.heap[w.heap.size + 1]? = some (.loop (rec .ready none)) := by
    rw [← hW1]; have := World.alloc_heap_new (w.alloc (.deferred (some []))) (.loop (rec .ready none)); rwa [World.size_alloc] at this
  have hK1 : W1.heap[w.heap.size]? = some (.deferred (some [])) := by
    rw [← hW1]; exact (Below.heap_alloc _ _ _ (by simp)).trans (World.alloc_heap_new w _)
  have hI1 : PI n₀ w.heap.size Bo wE [] W1 := by rw [← hW1]; exact (h0.alloc (by omega) _).alloc (by simp; omega) _
  have hb1 : Below w.heap.size w W1 := by
    rw [← hW1]; exact ((Below.refl _ w).alloc (Nat.le_refl _) _).alloc (by simp) _
  refine ⟨w.heap.size + 1, [{ target := .collected w.heap.size, args := #[] }], W1, { target := .fn (.func gf) lb, args := #[.func (.yield (w.heap.size + 1)) #[] #[]] }, W1, gf,
    #[.func (.yield (w.heap.size + 1)) #[] #[]] ++ lb, W1, ?_, ?_, ?_, ?_, fun _ => h1, ?_⟩
  · rw [← hW1, hrec]; exact run_enterLoop_outer _ _ _ _ _
  · simp only [resolve, hg]
    simp [go_sem]
  · intro f' hf'; trivial
  · simp [invoke, go_sem, eg]
  · refine (hseq (w.heap.size + 1)
      (fun pre W => PI n₀ w.heap.size Bo wE pre W ∧ W.heap[w.heap.size + 1]? = some (.loop (rec .ready none)) ∧ W.heap[w.heap.size]? = some (.deferred (some [])))
      W1 hb1 ?_ ⟨hI1, hL1, hK1⟩).mono ?_
    · -- ONE ROUND
      rintro pre x W0 W ⟨hi0, hl0, hk0⟩ hkeep _ hlen
      have hlt0 : w.heap.size + 1 < W0.heap.size := (Array.getElem?_eq_some_iff.1 hl0).1
      have hi : PI n₀ w.heap.size Bo wE pre W := hi0.keep hkeep hne hBs hnB (by omega)
      have hl : W.heap[w.heap.size + 1]? = some (.loop (rec .ready none)) := (hkeep.2 _ hlt0 (by omega)).trans hl0
      have hk : W.heap[w.heap.size]? = some (.deferred (some [])) := (hkeep.2 _ (by omega) (by omega)).trans hk0
      have hlt : w.heap.size + 1 < W.heap.size := (Array.getElem?_eq_some_iff.1 hl).1
      have hy := run_yield (P := P) (args := encs x) hl (by rw [hrec]; exact hps x)
      rw [hrec] at hy
      refine ⟨fn, _, assign, body, hy, roundIn_of_wpIn hfn (hassign _ x W _ ?_)⟩
      clear hy
      have hla : (W.alloc (.cells #[.int .i64 x.f0, .int .i64 x.f1] 25)).heap[w.heap.size + 1]? = some (.loop (rec .ready none)) := (Below.heap_alloc _ _ _ hlt).trans hl
      have hka : (W.alloc (.cells #[.int .i64 x.f0, .int .i64 x.f1] 25)).heap[w.heap.size]? = some (.deferred (some [])) := (Below.heap_alloc _ _ _ (by omega)).trans hk
      have hia := hi.alloc (by omega) (.cells #[.int .i64 x.f0, .int .i64 x.f1] 25)
      have hta := Two.new W 25 (.int .i64 x.f0) (.int .i64 x.f1)
      obtain ⟨Wa, hWa⟩ : ∃ Wa, (W.alloc (.cells #[.int .i64 x.f0, .int .i64 x.f1] 25)) = Wa := ⟨_, rfl⟩
      have hsame : ∀ k, k < W.heap.size → Wa.heap[k]? = W.heap[k]? := fun k hk => by rw [← hWa]; exact Below.heap_alloc _ _ _ hk
      have hsz : W.heap.size ≤ Wa.heap.size := by rw [← hWa]; simp
      have hba : Below 0 W Wa := by rw [← hWa]; exact (Below.refl 0 W).alloc (Nat.zero_le _) _
      rw [hWa] at hla hka hia hta ⊢
      have hlta : w.heap.size + 1 < Wa.heap.size := by omega
      refine ⟨_, run_beginRound hla (by rw [hrec]), ?_⟩
      have hl2 : (Wa.putObj (w.heap.size + 1) (.loop { rec .ready none with state := .busy })).heap[w.heap.size + 1]? = some (.loop { rec .ready none with state := .busy }) := World.putObj_heap_same hlta
      have hk2 : (Wa.putObj (w.heap.size + 1) (.loop { rec .ready none with state := .busy })).heap[w.heap.size]? = some (.deferred (some [])) := (World.putObj_heap_other (by omega)).trans hka
      have hi2 := hia.put hla rfl (by omega) (.loop { rec .ready none with state := .busy })
      have ht2 : Two (Wa.putObj (w.heap.size + 1) (.loop { rec .ready none with state := .busy })) W.heap.size 25 (.int .i64 x.f0) (.int .i64 x.f1) := (World.putObj_heap_other (by omega)).trans hta
      refine wpIn_mono (hbody _ pre x W.heap.size _ hi2 ht2 (by simp; omega) hlen) ?_
      rintro e a3 W3 hp
      cases e with
      | normal =>
        obtain ⟨hk3, hkb, hi3⟩ := hp
        have hl3 := hk3.same _ _ (by omega) hl2 rfl
        have hk4 := hk3.same _ _ (Nat.le_refl _) hk2 rfl
        have hr := run_endRound (P := P) none hl3
        rw [hrec] at hr hl3
        have hlt3 := (Array.getElem?_eq_some_iff.1 hl3).1
        refine ⟨_, _, hr, rfl, ⟨hi3.put hl3 rfl (by omega) _, ?_, (World.putObj_heap_other (by omega)).trans hk4⟩, ?_⟩
        · rw [World.putObj_heap_same hlt3, hrec]; rfl
        · obtain ⟨⟨vo, hbo, hro⟩, _⟩ := hi2
          obtain ⟨⟨vo0, hbo0, hro0⟩, _⟩ := hi0
          have hbow : Boxed (Wa.putObj (w.heap.size + 1) (.loop { rec .ready none with state := .busy })) Bo 37 vo0 :=
            ((World.putObj_heap_other (by omega)).trans ((hsame Bo (by have := hkeep.1.size; have := hbo0.lt; omega)).trans (hkeep.2 Bo hbo0.lt hne))).trans hbo0
          refine ⟨hba.trans ((show Below 0 Wa (Wa.putObj (w.heap.size + 1) _) from ⟨rfl, rfl, rfl, by simp, fun k hk => absurd hk (by omega)⟩).trans (hkb.1.trans ⟨rfl, rfl, rfl, by simp, fun k hk => absurd hk (by omega)⟩)), fun k hk hor => ?_⟩
          have hkl : k ≠ w.heap.size + 1 := by rcases hor with h | h | h | h | h <;> omega
          have hkB : k ≠ Bo := by
            rcases hor with h | h | h | h | h
            · omega
            · rw [h]; exact hne.symm
            · rw [h]; exact hne2.symm
            · rw [h]; exact hne3.symm
            · omega
          have hkv : some k ≠ vo0.ownBlock := by
            intro e
            have := ownsRow_blk hro0 e.symm
            rcases hor with h | h | h | h | h <;> omega
          refine (World.putObj_heap_other hkl).trans ((hkb.2 vo0 hbow k (by simp; omega) hkB hkv).trans ((World.putObj_heap_other hkl).trans (hsame k hk)))
      | ret => exact hp.2.elim
      | exit id => exact hp.2.elim
      | goto t => exact hp.2.elim
      | panic ch => exact hp.elim
      | outgrown => exact hp.elim
    · -- BEHIND THE ITERATOR
      rintro e W2 ⟨⟨v, rfl⟩, W0, ⟨hi0, hl0, hk0⟩, hkeep⟩
      have hlt0 : w.heap.size + 1 < W0.heap.size := (Array.getElem?_eq_some_iff.1 hl0).1
      have hi : PI n₀ w.heap.size Bo wE xs W2 := hi0.keep hkeep hne hBs hnB (by omega)
      have hl : W2.heap[w.heap.size + 1]? = some (.loop (rec .ready none)) := (hkeep.2 _ hlt0 (by omega)).trans hl0
      have hk : W2.heap[w.heap.size]? = some (.deferred (some [])) := (hkeep.2 _ (by omega) (by omega)).trans hk0
      exact ⟨none, _, by have := run_endLoop (P := P) hl (by rw [hrec]; simp); rw [hrec] at this; exact this, hdone _ _ (Nat.le_refl _) (hi.put hl rfl (by omega) _) ((World.putObj_heap_other (by omega)).trans hk)⟩

theorem planF_len : ∀ (f : Nat) (l : List Int) (a b : Int), (planF f l a b).length ≤ f
  | 0, _, _, _ => by simp [planF]
  | f + 1, l, a, b => by
    simp only [planF]
    split
    · have := planF_len f (afterM l (pickM l a b).1 (pickM l a b).2.1) a b
      simp; omega
    · simp
theorem plan_len (l : List Int) (a b : Int) : (plan l a b).length ≤ l.length := planF_len _ _ _ _
theorem reads_same {α : Type} {enc : α → Value} {d : α} {w W : World} {A : Option Addr} {n : Nat} {xs : List α} (h : ReadsOf enc d w A n xs) (hs : ∀ k, k < w.heap.size → W.heap[k]? = w.heap[k]?) : ReadsOf enc d W A n xs := by
  refine ⟨h.1, h.2.1, fun hn => ?_⟩
  obtain ⟨ad, e, hc⟩ := h.2.2 hn
  exact ⟨ad, e, fun j hj => (World.cell?_of_block (hs _ (World.block_lt_of_cell? w _ (hc j hj)))).trans (hc j hj)⟩
/-- Behind the append of one run, and the store into the box. -/
theorem run_appended {n₀ N1 Bo : Nat} {wE W w1 : World} {pre : List S25} {vo v' : Value} {x : S25} {tmp : Obj} (hn : n₀ ≤ Bo) (hN : Bo < N1) (hW : N1 ≤ W.heap.size) (hbo : Boxed W Bo 37 vo) (hro : W.ownsRow N1 25 2 vo pre.length (encS pre)) (hB : Below n₀ wE W)
    (hown : w1.ownsRow N1 25 2 v' (pre.length + 1) (encS pre ++ [.int .i64 x.f0, .int .i64 x.f1])) (hg : (W.alloc tmp).grownBy w1 vo.ownBlock) :
    Boxed w1 Bo 37 vo ∧ KeepsFrom N1 W (w1.setCell ⟨Bo, 0, none⟩ v') ∧ KB Bo W (w1.setCell ⟨Bo, 0, none⟩ v') ∧ PI n₀ N1 Bo wE (pre ++ [x]) (w1.setCell ⟨Bo, 0, none⟩ v') := by
  have hv1 : Boxed w1 Bo 37 vo := (hbo.alloc tmp).kept hg (hbo.not_row (by decide) hro)
  have hr2 := hown.kept (grownBy_setCell' w1 Bo v') (.inr (hv1.not_row (by decide) hown).symm)
  have hblk : ∀ g, vo.ownBlock = some g → N1 ≤ g := fun g hg' => (ownsRow_blk hro hg').1
  have hB2 : Below n₀ W (w1.setCell ⟨Bo, 0, none⟩ v') :=
    (((Below.refl n₀ W).alloc (by omega) tmp).grown hg (by simp; omega) (fun k hk => by have := hblk k hk; omega)).setCell (p := ⟨Bo, 0, none⟩) hn v'
  refine ⟨hv1, ?_, ⟨hB2.mono (Nat.zero_le _), ?_⟩, ⟨⟨v', hv1.set v', ?_⟩, hB.trans hB2⟩⟩
  · refine ((((KeepsOthers.alloc W tmp).trans (KeepsOthers.of_grownBy hg fun j o ej hj => ?_)).trans (KeepsOthers.setCell _ _ _))).from _
    obtain ⟨_, _, cur, hc⟩ := ownsRow_blk (hro.alloc tmp) ej
    rw [hc] at hj; cases hj; rfl
  · intro vo' hb' k hk hkB hkv
    have : vo' = vo := by
      have h2 := (show W.heap[Bo]? = _ from hb').symm.trans (show W.heap[Bo]? = _ from hbo)
      simpa using h2
    subst this
    exact (Below.heap_setCell w1 ⟨Bo, 0, none⟩ v' k hkB).trans ((hg.block k (by simp; omega) hkv).trans (Below.heap_alloc _ _ _ hk))
  · rw [encS_snoc, List.length_append]
    exact hr2
theorem infoRun : (Try.prog.info? 25).map (fun i => (i.zero, i.size, i.bytes)) = some (some (.agg #[.int .i64 0, .int .i64 0]), 2, 16) := by kernel_rfl

set_option maxRecDepth 100000 in
set_option maxHeartbeats 4000000 in
theorem plan_in (A0 : Option Addr) (c0 : Nat) (xs : List Int) (a b : Int) (w : World) (hr : Kd.C (Kd.int .i64) w A0 xs.length xs) (hc0 : xs.length ≤ c0) (hs : Small xs) :
    CallsIn Fence.wide 9 Try.prog 18 #[.slice A0 xs.length c0, .int .i64 a, .int .i64 b] w fun e w' => ∃ v, e = .returned v ∧ w'.ownsRow w.heap.size 25 2 v (plan xs a b).length (encS (plan xs a b)) ∧ Below w.heap.size w w' := by
  obtain ⟨i0, hi, hz0, hz1, hz2⟩ := info_parts infoRun
  refine callsIn_of_wp_marks Try.func18 rfl trivial ?_ rfl
  simp only [Try.ntmps18, List.size_toArray, List.length_cons, List.length_nil, Nat.reduceAdd, Nat.reduceSub, Array.replicate_succ, Array.replicate_zero, List.push_toArray, List.append_toArray, List.nil_append, List.cons_append]
  gi_wp2_with fail
  refine ⟨trivial, (runs_in _ A0 xs.length c0 a b _).mono ?_⟩
  rintro e w1 ⟨rfl, rfl⟩
  gi_wp2_with fail
  obtain ⟨wl, hwl⟩ : ∃ wl, (((w.alloc (.cells #[.slice none 0 0] 37)).alloc (.cells #[.slice A0 xs.length c0] 22)).alloc (.cells #[.int .i64 a] 3)).alloc (.cells #[.int .i64 b] 3) = wl := ⟨_, rfl⟩
  have hsz : w.heap.size + 4 ≤ wl.heap.size := by rw [← hwl]; simp
  have hbl : Below w.heap.size w wl := by rw [← hwl]; exact ((((Below.refl _ w).alloc (Nat.le_refl _) _).alloc (by simp) _).alloc (by simp; omega) _).alloc (by simp; omega) _
  have B0 : Boxed wl w.heap.size 37 (.slice none 0 0) := by rw [← hwl]; exact (((Boxed.new w _ _).alloc _).alloc _).alloc _
  have B1 : Boxed wl (w.heap.size + 1) 22 (.slice A0 xs.length c0) := by
    rw [← hwl]
    have h := Boxed.new (w.alloc (.cells #[.slice none 0 0] 37)) 22 (.slice A0 xs.length c0)
    rw [World.size_alloc] at h
    exact (h.alloc _).alloc _
  have B2 : Boxed wl (w.heap.size + 1 + 1) 3 (.int .i64 a) := by
    rw [← hwl]
    have h := Boxed.new ((w.alloc (.cells #[.slice none 0 0] 37)).alloc (.cells #[.slice A0 xs.length c0] 22)) 3 (.int .i64 a)
    rw [World.size_alloc, World.size_alloc] at h
    exact h.alloc _
  have B3 : Boxed wl (w.heap.size + 1 + 2) 3 (.int .i64 b) := by
    rw [← hwl]
    have h := Boxed.new (((w.alloc (.cells #[.slice none 0 0] 37)).alloc (.cells #[.slice A0 xs.length c0] 22)).alloc (.cells #[.int .i64 a] 3)) 3 (.int .i64 b)
    rw [World.size_alloc, World.size_alloc, World.size_alloc] at h
    exact h
  have hI0 : PI w.heap.size wl.heap.size w.heap.size w [] wl := ⟨⟨_, B0, World.ownsRow_nil _ _ _ _⟩, hbl⟩
  rw [hwl]
  refine rangeFunc_runs (wE := w) 9 (by decide) (gf := 28) (lb := #[.pointer (some ⟨w.heap.size + 1, 0, none⟩), .pointer (some ⟨w.heap.size + 1 + 1, 0, none⟩), .pointer (some ⟨w.heap.size + 1 + 2, 0, none⟩)]) rfl (enters_of Try.func28 (by kernel_rfl) rfl)
    (fun x => #[.agg #[.int .i64 x.f0, .int .i64 x.f1]]) (fun _ => rfl) w.heap.size w.heap.size (w.heap.size + 1) (w.heap.size + 1 + 1) (w.heap.size + 1 + 2) (plan xs a b) (Nat.le_refl _) (by omega) (by omega) (by omega) (by omega) (by omega) (by omega) (by omega) (by omega)
    (fun l J W hW hY h0 => runs1_in 8 (by decide) l (w.heap.size + 1) (w.heap.size + 1 + 1) (w.heap.size + 1 + 2) w.heap.size A0 c0 xs a b hs hc0 J (by omega) (by omega) (by omega) hY W (boxed_below B1 hW) (boxed_below B2 hW) (boxed_below B3 hW) ?hC (by have := hW.size; omega) h0)
    hI0 (fun x rb => { tmps := #[.slice A0 xs.length c0, .int .i64 a, .int .i64 b, undef, undef, undef, .slice none 0 0, .pointer (some ⟨w.heap.size, 0, none⟩), .pointer (some ⟨rb, 0, none⟩), .slice A0 xs.length c0, .int .i64 a, .int .i64 b, .func (.func 28) #[] #[.pointer (some ⟨w.heap.size + 1, 0, none⟩), .pointer (some ⟨w.heap.size + 1 + 1, 0, none⟩), .pointer (some ⟨w.heap.size + 1 + 2, 0, none⟩)], .agg #[.int .i64 x.f0, .int .i64 x.f1], undef, undef, undef, undef, undef], defers := [] }) ?assign ?body ?done
  case hC =>
    intro W' hk
    exact Kd.C_of_reads (d := 0) (reads_same (Kd.reads_of_C hr) (fun k hlt => (hk k hlt).trans ((hW.block k (by omega)).trans (hbl.block k hlt))))
  case assign =>
    intro l x W K hK
    gi_wp2
    exact hK
  case body =>
    rintro l pre x rb W ⟨⟨vo, hbo, hro⟩, hB⟩ hT hWs hlt
    have c1 := hbo.cell
    have c2 := hT.cell0
    have c3 := hT.cell1
    have hpl := plan_len xs a b
    have hxl := hs.1
    gi_wp2_with (gi_at_builtin; refine wpListIn_append_own _ rfl _ _ 37 rfl wl.heap.size 25 i0 (.agg #[.int .i64 0, .int .i64 0]) 2 16 Try.underlying37 hi hz0 hz1 hz2 rfl (by decide) _ _ _ rfl (hro.alloc _) ⟨W.heap.size, 0, none⟩ 1 1 [.int .i64 x.f0, .int .i64 x.f1] rfl rfl ?c1 ?c2 ?c3 ?c4 ?c5 ?_)
    case c1 => exact cell_two_new _ _ _ _
    case c2 => simp [Value.oneCell']
    case c3 => unfold maxLen; omega
    case c4 => omega
    case c5 => simp; omega
    intro v' w2 hown hgrow _
    obtain ⟨g', cap', rfl⟩ := ownsRow_succ hown
    obtain ⟨d1, d2, d3, d4⟩ := run_appended (Nat.le_refl _) (by omega) hWs hbo hro hB hown hgrow
    have e1 := d1.cell
    have e2 := d1.frozen
    gi_wp2
    exact ⟨d2, d3, d4⟩
  case done =>
    rintro D W hD ⟨⟨vo, hbo, hro⟩, hB⟩ hK
    have hc := hbo.cell
    gi_wp2
    refine ⟨by simp, .inl ⟨_, _, rfl, run_takeDeferred hK, ?_⟩⟩
    exact ⟨_, results_tmp rfl _ _ _, vo, rfl, own_weaken (ownsRow_putObj hro _ hK rfl) (by omega), hB.trans (belowK_b (w := w) (Nat.le_refl _) W D _ _ (by omega) hK rfl rfl)⟩
theorem plan_any (A0 : Option Addr) (c0 : Nat) (xs : List Int) (a b : Int) (w : World) (hr : Kd.C (Kd.int .i64) w A0 xs.length xs) (hc0 : xs.length ≤ c0) (hs : Small xs) :
    Calls Try.prog 18 #[.slice A0 xs.length c0, .int .i64 a, .int .i64 b] w fun e w' => ∃ v, e = .returned v ∧ Kd.R k25 25 w' w.heap.size (fun _ => True) v (plan xs a b) ∧ Below w.heap.size w w' := by
  refine (callsIn_wide.1 (plan_in A0 c0 xs a b w hr hc0 hs)).mono ?_
  rintro e w' ⟨v, rfl, hro, hb⟩
  exact ⟨v, rfl, ⟨fun _ _ => trivial, encS (plan xs a b), hro, encS_reps _ _ _ _⟩, hb⟩
def policy_Plan.f (l0 : List Int) (a1 : Int) (a2 : Int) : Option (List S25) := if Small l0 then some (plan l0 a1 a2) else none
theorem policy_Plan.calls (A0 : Option Addr) (c0 : Nat) (l0 : List Int) (a1 : Int) (a2 : Int) (r : List S25) (w : World) (hr0 : Kd.C (Kd.int .i64) w A0 l0.length l0) (hc0 : l0.length ≤ c0) (h : policy_Plan.f l0 a1 a2 = some r) :
    Calls Try.prog 18 #[.slice A0 l0.length c0, .int .i64 a1, .int .i64 a2] w fun e w' => ∃ v0_ : Value, e = .returned (v0_) ∧ Kd.R k25 25 w' w.heap.size (fun _ => True) v0_ r ∧ Below w.heap.size w w' := by
  unfold policy_Plan.f at h
  split at h
  · cases h
    exact plan_any A0 c0 l0 a1 a2 w hr0 hc0 (by assumption)
  · cases h
end Go.Proofs.Ytpaenaedahoggaa
