/- Joined: Like, Law, OpenDeeds. -/
import Derived.Test.YtcfkmhmgappckaaBnd4
import Derived.Deep.Slices
import Derived.Deep.Strs
import Derived.ProofKit
import Derived.OpenShut
set_option linter.unusedVariables false
set_option linter.unusedSimpArgs false
/- Has a schedule what it must have: told true. Condition: few of each. -/
namespace Go.Proofs.Ytcfkmhmgappckaa
open Go.RowKit Go.Proofs.Ytcfkmhmgappckaa.Sc Go.Proofs.Ytcfkmhmgappckaa.PAll Go.Proofs.YtcfkmhmgappckaaW.PrintWords Go.Proofs.YtcfkmhmgappckaaW.PrintLast Go.Proofs.YtcfkmhmgappckaaW.PrintMore

theorem stT_out (S : Sd) (i : Int) (h : i < 0 ∨ (S.T.length : Int) ≤ i) : stT S i = -1 := by
  unfold stT
  rw [if_neg]
  rw [there_iff]; omega
theorem stT_in (S : Sd) (i : Nat) (h : i < S.T.length) : stT S (i : Int) = S.T[i] := by
  unfold stT
  rw [there_nat _ _ h, if_pos rfl, Int.toNat_natCast, List.getD_eq_getElem?_getD, List.getElem?_eq_getElem h]; rfl
theorem ow_out (S : Sd) (i : Int) (h : i < 0 ∨ (S.M.length : Int) ≤ i) : owner S i = -1 ∧ rowM S i = [] := by
  unfold owner rowM
  rw [if_neg (by rw [there_iff]; omega), if_neg (by rw [there_iff]; omega)]
  exact ⟨rfl, rfl⟩
theorem ow_in (S : Sd) (i : Nat) (h : i < S.M.length) : owner S (i : Int) = (S.M[i]).1 ∧ rowM S (i : Int) = (S.M[i]).2 := by
  unfold owner rowM mu
  rw [there_nat _ _ h, if_pos rfl, if_pos rfl, Int.toNat_natCast, List.getD_eq_getElem?_getD, List.getElem?_eq_getElem h]; exact ⟨rfl, rfl⟩
set_option maxHeartbeats 4000000 in
set_option maxRecDepth 100000 in
theorem like_any {K : Nat → Prop} {w : World} {B D g h : Nat} {S : Sd} (H : Two K w B D g h S S) (hf : Fits S) :
    Calls Try.prog 25 #[.pointer (some ⟨g, 0, none⟩), .pointer (some ⟨h, 0, none⟩)] w fun e w' => e = .returned (.bool true) ∧ Below w.heap.size w w' := by
  obtain ⟨F, hS⟩ := H.left
  obtain ⟨G, hR⟩ := H.right
  obtain ⟨A, cT, d0, hA⟩ := hR.states
  obtain ⟨nT, hnT⟩ : ∃ n, n = S.T.length := ⟨_, rfl⟩
  have lT := hf.t
  have HA := Lib.hid hA
  have HS := Lib.hid hS
  have HR := Lib.hid hR
  have HF := Lib.hid hf
  have HN := Lib.hid hnT
  rw [← hnT] at d0 lT
  clear H hS hR hA hf hnT
  go_enter Try.func25, Try.ntmps25
  go_upto_region 2 with fail
  go_loopw [5] (fun v5 wr => ∃ i : Int, v5 = .int .i64 i ∧ -1 ≤ i ∧ i ≤ nT + 1 ∧ wr = w) (fun v5 _ => (nT + 1 - intOf v5).toNat)
  case atStart => exact ⟨-1, rfl, by omega, by omega, rfl⟩
  case round =>
    obtain ⟨i, rfl, h1, h2, rfl⟩ := hrel
    by_cases hi : i ≤ nT
    · have hst := state_sch HS.out HF.out.t i
      have hw : IntKind.i64.wrap (i + 1) = i + 1 := IntWalk.i64_in _ (by omega)
      rcases (by omega : i = -1 ∨ (0 ≤ i ∧ i < nT) ∨ i = nT) with rfl | ⟨h3, h4⟩ | rfl
      · rw [stT_out _ _ (.inl (by omega))] at hst
        have HST := Lib.hid hst
        have g1 : decide ((-1 : Int) ≤ (nT : Int)) = true := decide_eq_true (by omega)
        clear hst h1 h2 hi
        go_wp2_with fail
        refine HST.out.mono ?_
        rintro e w3 ⟨rfl, hw'⟩
        rw [hw']
        clear hw' w3
        go_wp2_with fail
        go_roundw
        case rel => exact ⟨_, rfl, by omega, by omega, trivial⟩
        case measure => simp only [intOf]; omega
      · obtain ⟨k, rfl⟩ := Int.eq_ofNat_of_zero_le h3
        have hk : k < S.T.length := by rw [← HN.out]; omega
        rw [stT_in _ _ hk] at hst
        have HST := Lib.hid hst
        have g1 : decide ((k : Int) ≤ (nT : Int)) = true := decide_eq_true (by omega)
        have g2 : (k : Int) < (nT : Int) := h4
        obtain ⟨b, o, rfl, hc⟩ := HA.out k hk
        obtain ⟨x, hx⟩ : ∃ x, x = S.T[k] := ⟨_, rfl⟩
        rw [← hx] at HST hc
        clear hst h1 h2 hi h3 h4 HA hx
        go_wp2_with fail
        refine HST.out.mono ?_
        rintro e w3 ⟨rfl, hw'⟩
        rw [hw']
        clear hw' w3
        go_wp2_with fail
        go_roundw
        case rel => exact ⟨_, rfl, by omega, by omega, trivial⟩
        case measure => simp only [intOf]; omega
      · rw [stT_out _ _ (.inr (by rw [← HN.out]; omega))] at hst
        have HST := Lib.hid hst
        have g1 : decide ((nT : Int) ≤ (nT : Int)) = true := decide_eq_true (by omega)
        have g2 : decide ((nT : Int) < (nT : Int)) = false := decide_eq_false (by omega)
        clear hst h1 h2 hi
        go_wp2_with fail
        refine HST.out.mono ?_
        rintro e w3 ⟨rfl, hw'⟩
        rw [hw']
        clear hw' w3
        go_wp2_with fail
        go_roundw
        case rel => exact ⟨_, rfl, by omega, by omega, trivial⟩
        case measure => simp only [intOf]; omega
    · obtain rfl : i = nT + 1 := by omega
      have g1 : decide (((nT : Int) + 1) ≤ (nT : Int)) = false := decide_eq_false (by omega)
      rename World => w0
      obtain ⟨A1, cO, p1, hO⟩ := HR.out.owners
      obtain ⟨A2, cW, p2, hW⟩ := HR.out.rowsAt HF.out
      obtain ⟨nM, hnM⟩ : ∃ n, n = S.M.length := ⟨_, rfl⟩
      have lM := HF.out.m
      have HO := Lib.hid hO
      have HW := Lib.hid hW
      have HM := Lib.hid hnM
      rw [← hnM] at p1 p2 lM
      clear hO hW hnM HA h1 h2 hi
      go_upto_region 10 with fail
      clear g1
      go_loopw [7] (fun v7 wr => ∃ i : Int, v7 = .int .i64 i ∧ -1 ≤ i ∧ i ≤ nM + 1 ∧ Below w0.heap.size w0 wr) (fun v7 _ => (nM + 1 - intOf v7).toNat)
      case atStart => exact ⟨-1, rfl, by omega, by omega, Below.refl _ _⟩
      case round =>
        obtain ⟨i, rfl, h1, h2, hb⟩ := hrel
        have q1 := cell_stay (Nat.le_refl _) hb p1
        have q2 := cell_stay (Nat.le_refl _) hb p2
        have hown := owner_sch (HS.out.below hb) HF.out.m i
        have hrow := row_sch (HS.out.below hb) HF.out.m (fun x hx => Nat.le_trans (HF.out.ok.rowFew x hx) HF.out.t) i
        by_cases hi : i ≤ nM
        · have hw : IntKind.i64.wrap (i + 1) = i + 1 := IntWalk.i64_in _ (by omega)
          rcases (by omega : i = -1 ∨ (0 ≤ i ∧ i < nM) ∨ i = nM) with rfl | ⟨h3, h4⟩ | rfl
          · have how := ow_out S (-1 : Int) (.inl (by omega))
            have g1 : decide ((-1 : Int) ≤ (nM : Int)) = true := decide_eq_true (by omega)
            have g2 : decide ((-1 : Int) < (nM : Int)) = false ∨ True := .inr trivial
            have hLl : ([] : List Int).length ≤ 1000000 := by decide
            have e3 := reads_nil wr
            rw [how.1] at hown
            rw [how.2] at hrow
            clear how g2
            have HOW := Lib.hid hown
            have HRW := Lib.hid hrow
            have HE3 := Lib.hid e3
            have HB := Lib.hid hb
            clear hown hrow e3 h1 h2 hi hb
            go_wp2_with fail
            refine HOW.out.mono ?_
            rintro e w3 ⟨rfl, hw'⟩
            rw [hw']
            clear hw' w3
            go_wp2_with fail
            refine HRW.out.mono ?_
            rintro e w4 ⟨u4, rfl, hr4, hb4⟩
            have HR4 := Lib.hid hr4
            have HB4 := Lib.hid hb4
            clear hr4 hb4
            go_wp2_with fail
            refine (same_any HR4.out (HE3.out.below HB4.out) hLl).mono ?_
            rintro e w5 ⟨rfl, hb5⟩
            have HB5 := Lib.hid (HB.out.trans ((HB4.out.mono HB.out.size).trans (hb5.mono (Nat.le_trans HB.out.size HB4.out.size))))
            clear hb5
            go_wp2_with fail
            go_roundw
            case rel => exact ⟨_, rfl, by omega, by omega, HB5.out⟩
            case measure => simp only [intOf]; omega
          · obtain ⟨k, rfl⟩ := Int.eq_ofNat_of_zero_le h3
            have hk : k < S.M.length := by rw [← HM.out]; omega
            have how := ow_in S k hk
            have g1 : decide ((k : Int) ≤ (nM : Int)) = true := decide_eq_true (by omega)
            have g2 : (k : Int) < (nM : Int) := h4
            obtain ⟨b1, o1, rfl, hc1⟩ := HO.out k hk
            obtain ⟨b2, o2, v2, rfl, hc2, hrd2⟩ := HW.out k hk
            have e1 := cell_stay (Nat.le_refl _) hb hc1
            have e2 := cell_stay (Nat.le_refl _) hb hc2
            have e3 := hrd2.below hb
            obtain ⟨x, hx⟩ : ∃ x, x = (S.M[k]).1 := ⟨_, rfl⟩
            obtain ⟨L, hL⟩ : ∃ L, L = (S.M[k]).2 := ⟨_, rfl⟩
            have hLl : L.length ≤ 1000000 := by rw [hL]; exact Nat.le_trans (HF.out.ok.rowFew _ (List.getElem_mem _)) (Nat.le_trans HF.out.t (by decide))
            rw [← hx] at how e1
            rw [← hL] at how e3
            rw [how.1] at hown
            rw [how.2] at hrow
            clear how hc1 hc2 hrd2 hx hL h3 h4 hk HO HW
            have HOW := Lib.hid hown
            have HRW := Lib.hid hrow
            have HE3 := Lib.hid e3
            have HB := Lib.hid hb
            clear hown hrow e3 h1 h2 hi hb
            go_wp2_with fail
            refine HOW.out.mono ?_
            rintro e w3 ⟨rfl, hw'⟩
            rw [hw']
            clear hw' w3
            go_wp2_with fail
            refine HRW.out.mono ?_
            rintro e w4 ⟨u4, rfl, hr4, hb4⟩
            have HR4 := Lib.hid hr4
            have HB4 := Lib.hid hb4
            clear hr4 hb4
            go_wp2_with fail
            refine (same_any HR4.out (HE3.out.below HB4.out) hLl).mono ?_
            rintro e w5 ⟨rfl, hb5⟩
            have HB5 := Lib.hid (HB.out.trans ((HB4.out.mono HB.out.size).trans (hb5.mono (Nat.le_trans HB.out.size HB4.out.size))))
            clear hb5
            go_wp2_with fail
            go_roundw
            case rel => exact ⟨_, rfl, by omega, by omega, HB5.out⟩
            case measure => simp only [intOf]; omega
          · have how := ow_out S (nM : Int) (.inr (by rw [← HM.out]; omega))
            have g1 : decide ((nM : Int) ≤ (nM : Int)) = true := decide_eq_true (by omega)
            have g2 : decide ((nM : Int) < (nM : Int)) = false ∨ True := .inr trivial
            have hLl : ([] : List Int).length ≤ 1000000 := by decide
            have e3 := reads_nil wr
            rw [how.1] at hown
            rw [how.2] at hrow
            clear how g2
            have g2 : decide ((nM : Int) < (nM : Int)) = false := decide_eq_false (by omega)
            have HOW := Lib.hid hown
            have HRW := Lib.hid hrow
            have HE3 := Lib.hid e3
            have HB := Lib.hid hb
            clear hown hrow e3 h1 h2 hi hb
            go_wp2_with fail
            refine HOW.out.mono ?_
            rintro e w3 ⟨rfl, hw'⟩
            rw [hw']
            clear hw' w3
            go_wp2_with fail
            refine HRW.out.mono ?_
            rintro e w4 ⟨u4, rfl, hr4, hb4⟩
            have HR4 := Lib.hid hr4
            have HB4 := Lib.hid hb4
            clear hr4 hb4
            go_wp2_with fail
            refine (same_any HR4.out (HE3.out.below HB4.out) hLl).mono ?_
            rintro e w5 ⟨rfl, hb5⟩
            have HB5 := Lib.hid (HB.out.trans ((HB4.out.mono HB.out.size).trans (hb5.mono (Nat.le_trans HB.out.size HB4.out.size))))
            clear hb5
            go_wp2_with fail
            go_roundw
            case rel => exact ⟨_, rfl, by omega, by omega, HB5.out⟩
            case measure => simp only [intOf]; omega
        · obtain rfl : i = nM + 1 := by omega
          have g1 : decide (((nM : Int) + 1) ≤ (nM : Int)) = false := decide_eq_false (by omega)
          clear h1 h2 hi hown hrow p1 p2
          have hrd := ready_reads (HS.out.below hb) HF.out.t
          have HRD := Lib.hid hrd
          have HB := Lib.hid hb
          clear hrd hb
          have hll : (ready S).length ≤ 1000000 := by unfold ready; rw [readyF_len]; exact Nat.le_trans List.countP_le_length (Nat.le_trans HF.out.t (by decide))
          go_wp2_with fail
          refine HRD.out.mono ?_
          rintro e w4 ⟨u4, rfl, hr4, hb4⟩
          have HR4 := Lib.hid hr4
          have HB4 := Lib.hid (HB.out.trans (hb4.mono HB.out.size))
          clear hr4 hb4
          go_wp2_with fail
          refine (rready_any (HR.out.below HB4.out) HF.out.t).mono ?_
          rintro e w5 ⟨u5, rfl, hr5, hb5⟩
          have HR5 := Lib.hid hr5
          have HB5 := Lib.hid hb5
          clear hr5 hb5
          go_wp2_with fail
          refine (same_any (HR4.out.below HB5.out) HR5.out hll).mono ?_
          rintro e w6 ⟨rfl, hb6⟩
          have HB6 := Lib.hid (HB4.out.trans ((HB5.out.mono HB4.out.size).trans (hb6.mono (Nat.le_trans HB4.out.size HB5.out.size))))
          clear hb6
          go_wp2_with fail
          refine (stuck_sch (HS.out.below HB6.out) HF.out.t).mono ?_
          rintro e w7 ⟨rfl, rfl⟩
          go_wp2_with fail
          refine (rstuck_any (HR.out.below HB6.out) HF.out.t).mono ?_
          rintro e w7 ⟨rfl, rfl⟩
          go_wp2_with fail
          go_ret
          exact ⟨rfl, HB6.out⟩
end Go.Proofs.Ytcfkmhmgappckaa

/- What the laws share: sizes, deeds that are handed in, both structures made. -/
namespace Go.Proofs.Ytcfkmhmgappckaa
open Go.RowKit Go.Proofs.Ytcfkmhmgappckaa.Sc Go.Proofs.Ytcfkmhmgappckaa.PAll Go.Proofs.YtcfkmhmgappckaaW.PrintWords Go.Proofs.YtcfkmhmgappckaaW.PrintLast Go.Proofs.YtcfkmhmgappckaaW.PrintMore

/-- From -1 to 5. -/
def sizeI (n : Int) : Int := if n < -1 then Int.tmod (-(n + 1)) 6 else Int.tmod n 6
theorem sizeI_in (n : Int) : -1 ≤ sizeI n ∧ sizeI n ≤ 5 := by
  unfold sizeI
  split
  · have h := Int.emod_nonneg (-(n + 1)) (show (6 : Int) ≠ 0 by decide)
    have h2 := Int.emod_lt_of_pos (-(n + 1)) (show (0 : Int) < 6 by decide)
    rw [Int.tmod_eq_emod_of_nonneg (by omega)]; omega
  · rcases (by omega : n = -1 ∨ 0 ≤ n) with rfl | h0
    · decide
    · have h := Int.emod_nonneg n (show (6 : Int) ≠ 0 by decide)
      have h2 := Int.emod_lt_of_pos n (show (0 : Int) < 6 by decide)
      rw [Int.tmod_eq_emod_of_nonneg h0]; omega
theorem size_any (n : Int) (w : World) (h : (Lit.int .i64 n).wf = true) :
    Calls Try.prog 21 #[.int .i64 n] w fun e w' => e = .returned (.int .i64 (sizeI n)) ∧ Below w.heap.size w w' := by
  have h5 : -9223372036854775808 ≤ n ∧ n ≤ 9223372036854775807 := by simpa only [Lit.wf, show IntKind.i64.min = -9223372036854775808 by decide, show IntKind.i64.max = 9223372036854775807 by decide, Bool.and_eq_true, decide_eq_true_eq] using h
  obtain ⟨n1, n2⟩ := h5
  refine (concordancelaw19_size.calls n (sizeI n) w ?_).mono (fun e w' ⟨h, hd⟩ => ⟨h, hd.below⟩)
  unfold concordancelaw19_size.f sizeI
  split
  · rw [wrap64_in' (n + 1) (by omega) (by omega), wrap64_in' _ (by omega) (by omega)]
  · rfl
/-- Deeds that are handed in. -/
def DeedsAt (w : World) (A : Option Addr) (l : List Dd) : Prop :=
  (∀ d ∈ l, -9223372036854775808 ≤ d.t ∧ d.t ≤ 9223372036854775807) ∧ (0 < l.length → ∃ b o, A = some ⟨b, o, none⟩ ∧ ∀ j, (hj : j < l.length) →
    w.cell? ⟨b, o + j * 5, none⟩ = some (.int .i64 l[j].k) ∧ w.cell? ⟨b, o + j * 5 + 1, none⟩ = some (.int .i64 l[j].t) ∧ w.cell? ⟨b, o + j * 5 + 2, none⟩ = some (.int .i64 l[j].m) ∧
    w.cell? ⟨b, o + j * 5 + 3, none⟩ = some (.int .i64 l[j].c) ∧ w.cell? ⟨b, o + j * 5 + 4, none⟩ = some (.bool l[j].p))
theorem DeedsAt.below {w w1 : World} {A : Option Addr} {l : List Dd} (h : DeedsAt w A l) (hb : Below w.heap.size w w1) : DeedsAt w1 A l := by
  refine ⟨h.1, fun h0 => ?_⟩
  obtain ⟨b, o, e, hc⟩ := h.2 h0
  refine ⟨b, o, e, fun j hj => ?_⟩
  obtain ⟨c0, c1, c2, c3, c4⟩ := hc j hj
  exact ⟨cell_stay (Nat.le_refl _) hb c0, cell_stay (Nat.le_refl _) hb c1, cell_stay (Nat.le_refl _) hb c2, cell_stay (Nat.le_refl _) hb c3, cell_stay (Nat.le_refl _) hb c4⟩
/-- What is so behind i deeds. -/
def deeds (S : Sd) (l : List Dd) (i : Nat) : Sd := (l.take i).foldl doesS S
theorem deeds_zero (S : Sd) (l : List Dd) : deeds S l 0 = S := rfl
theorem deeds_step (S : Sd) (l : List Dd) (i : Nat) (h : i < l.length) : deeds S l (i + 1) = doesS (deeds S l i) l[i] := by
  unfold deeds
  rw [List.take_succ_eq_append_getElem h, List.foldl_append]; rfl
theorem Fits.deeds {S : Sd} (h : Fits S) (l : List Dd) (i : Nat) : Fits (deeds S l i) := by
  unfold Go.Proofs.Ytcfkmhmgappckaa.deeds
  induction l.take i generalizing S with
  | nil => exact h
  | cons d m ih => exact ih (h.does d)
theorem size_deeds (S : Sd) (l : List Dd) (i : Nat) : Size S (deeds S l i) := by
  unfold deeds
  induction l.take i generalizing S with
  | nil => exact Size.refl _
  | cons d m ih => exact (size_does S d).trans (ih _)
theorem fits_new (t m c : Int) (ht : t ≤ 1000) (hm : m ≤ 1000) (hc : c ≤ 1000) : Fits (newS t m c) := by
  refine ⟨Ok.new t m c, ?_, ?_, ?_⟩ <;> simp [newS] <;> omega
/-- Both, made one behind the other. -/
theorem two_new {w w1 w2 w3 : World} {g h : Nat} {S : Sd} (s : Sch w1 w.heap.size g (fun k => w.heap.size ≤ k ∧ k < w1.heap.size) S) (hb : Below w.heap.size w w1) (hb2 : Below w1.heap.size w1 w2)
    (r : Rch w3 w2.heap.size h (fun k => w2.heap.size ≤ k ∧ k < w3.heap.size) S) (hb3 : Below w2.heap.size w2 w3) : Two (fun k => k < w.heap.size) w3 w.heap.size w2.heap.size g h S S :=
  ⟨_, _, (s.below hb2).below hb3, r, fun k q q2 => by have := hb2.size; omega, fun k q => ⟨fun q2 => by omega, fun q2 => by have := hb.size; have := hb2.size; omega, by have := hb.size; have := hb2.size; have := hb3.size; omega⟩,
    by have := hb.size; have := hb2.size; have := hb3.size; omega, hb3.size⟩
end Go.Proofs.Ytcfkmhmgappckaa

/- Deeds that are handed in: a slice of them, and one. No condition. -/
namespace Go.Proofs.Ytcfkmhmgappckaa
open Go.RowKit Go.ChangeShapes Go.WideShapes Go.ChangeAt Go.Deep Go.Proofs.Ytcfkmhmgappckaa.PAll Go.Proofs.YtcfkmhmgappckaaW.PrintWords

instance : Inhabited Dd := ⟨⟨0, 0, 0, 0, false⟩⟩
theorem spot_of_cell {w : World} {ad : Addr} {v : Value} (h : w.cell? ad = some v) : ∃ b o, ad = ⟨b, o, none⟩ := by
  obtain ⟨b, o, s⟩ := ad
  cases s with
  | none => exact ⟨b, o, rfl⟩
  | some x =>
    unfold World.cell? at h
    simp at h
    split at h <;> simp at h
theorem i64_in_of_wf {n : Int} (h : (Lit.int .i64 n).wf = true) : -9223372036854775808 ≤ n ∧ n ≤ 9223372036854775807 := by
  simpa only [Lit.wf, show IntKind.i64.min = -9223372036854775808 by decide, show IntKind.i64.max = 9223372036854775807 by decide, Bool.and_eq_true, decide_eq_true_eq] using h
theorem open_deed {H : Type} {enc : TypeId × Value → H} {w : World} {base b0 : Nat} {held : Bool} {r : Reach} {v : Value} {d : DataW H} {ps : List MemPlace}
    (hval : Value.okWide Try.prog w r b0 45 v) (hd : DataW.Trod enc Try.prog w base (fun _ => true) held 45 v d ps) : ∃ y : Dd, v = y.val := by
  obtain ⟨cs, rfl, hcs⟩ := okWide_struct Try.underlying45 hval
  have ce : Try.prog.cellsOf 45 = 5 := by kernel_rfl
  rw [ce] at hcs
  obtain ⟨fuel, hf⟩ := hd
  obtain ⟨xs, k, hk, hxy, _, hxl, hfl⟩ := DataW.trod_struct Try.underlying45 hf
  obtain ⟨l, rfl⟩ : ∃ l : List Value, cs = l.toArray := ⟨cs.toList, by simp⟩
  match xs, hxl, l, hcs with
  | [y0, y1, y2, y3, y4], _, [v0, v1, v2, v3, v4], _ =>
    have g0 := hfl 0 _ rfl
    have g1 := hfl 1 _ rfl
    have g2 := hfl 2 _ rfl
    have g3 := hfl 3 _ rfl
    have g4 := hfl 4 _ rfl
    have c3 : Try.prog.cellsOf 3 = 1 := by kernel_rfl
    have c4 : Try.prog.cellsOf 4 = 1 := by kernel_rfl
    simp [c3, c4, Value.cells] at g0 g1 g2 g3 g4
    obtain ⟨z0, q0, -, -⟩ := DataW.trod_int Try.underlying3 g0
    obtain ⟨z1, q1, -, -⟩ := DataW.trod_int Try.underlying3 g1
    obtain ⟨z2, q2, -, -⟩ := DataW.trod_int Try.underlying3 g2
    obtain ⟨z3, q3, -, -⟩ := DataW.trod_int Try.underlying3 g3
    obtain ⟨z4, q4, -⟩ := DataW.trod_bool Try.underlying4 g4
    have q0' : v0 = .int .i64 z0 := by simpa using q0
    have q1' : v1 = .int .i64 z1 := by simpa using q1
    have q2' : v2 = .int .i64 z2 := by simpa using q2
    have q3' : v3 = .int .i64 z3 := by simpa using q3
    have q4' : v4 = .bool z4 := by simpa using q4
    subst q0' q1' q2' q3' q4'
    exact ⟨⟨z0, z1, z2, z3, z4⟩, rfl⟩
theorem open_deeds {H : Type} {enc : TypeId × Value → H} {w : World} {base b0 : Nat} {held : Bool} {r : Reach} {v : Value} {d : DataW H} {ps : List MemPlace}
    (hval : Value.okWide Try.prog w r b0 40 v) (hd : DataW.Trod enc Try.prog w base (fun _ => true) held 40 v d ps) : ∃ (A : Option Addr) (c : Nat) (l : List Dd), v = .slice A l.length c ∧ DeedsAt w A l := by
  obtain ⟨a, len, cap, rfl⟩ := okWide_slice Try.underlying40 hval
  obtain ⟨fuel, hf⟩ := hd
  rcases open_slice Try.underlying40 hf with ⟨hcs, _⟩ | ⟨x, l, c, m, n, D, Pl, hcs, _, hl, hm, hmm, _, hx⟩
  · simp [Value.cells] at hcs
    obtain ⟨rfl, rfl, rfl⟩ := hcs
    exact ⟨none, 0, [], rfl, by simp, fun h => by simp at h⟩
  · simp [Value.cells] at hcs
    obtain ⟨rfl, rfl, rfl⟩ := hcs
    simp only [if_true] at hmm
    subst hmm
    have each : ∀ i, i < m → ∃ y : Dd, (w.cell? (x.add (i * 5)) = some (.int .i64 y.k) ∧ w.cell? ((x.add (i * 5)).add 1) = some (.int .i64 y.t) ∧ w.cell? ((x.add (i * 5)).add 2) = some (.int .i64 y.m) ∧
        w.cell? ((x.add (i * 5)).add 3) = some (.int .i64 y.c) ∧ w.cell? ((x.add (i * 5)).add 4) = some (.bool y.p)) ∧ -9223372036854775808 ≤ y.t ∧ y.t ≤ 9223372036854775807 := by
      intro i hi
      obtain ⟨cs', h1, h2⟩ := hx i hi
      have ce : Try.prog.cellsOf 45 = 5 := by kernel_rfl
      rw [ce] at h1
      obtain ⟨_, hlen, hcell⟩ := World.cells?_some h1
      obtain ⟨xs, k, hk, hxy, _, hxl, hfl⟩ := DataW.trod_struct Try.underlying45 h2
      match xs, hxl, cs', hlen with
      | [y0, y1, y2, y3, y4], _, [v0, v1, v2, v3, v4], _ =>
        have g0 := hfl 0 _ rfl
        have g1 := hfl 1 _ rfl
        have g2 := hfl 2 _ rfl
        have g3 := hfl 3 _ rfl
        have g4 := hfl 4 _ rfl
        have c3 : Try.prog.cellsOf 3 = 1 := by kernel_rfl
        have c4 : Try.prog.cellsOf 4 = 1 := by kernel_rfl
        simp [c3, c4] at g0 g1 g2 g3 g4
        have e0 := hcell 0 (by omega)
        have e1 := hcell 1 (by omega)
        have e2 := hcell 2 (by omega)
        have e3 := hcell 3 (by omega)
        have e4 := hcell 4 (by omega)
        obtain ⟨z0, q0, -, -⟩ := DataW.trod_int Try.underlying3 g0
        obtain ⟨z1, q1, -, w1⟩ := DataW.trod_int Try.underlying3 g1
        obtain ⟨z2, q2, -, -⟩ := DataW.trod_int Try.underlying3 g2
        obtain ⟨z3, q3, -, -⟩ := DataW.trod_int Try.underlying3 g3
        obtain ⟨z4, q4, -⟩ := DataW.trod_bool Try.underlying4 g4
        have q0' : v0 = .int .i64 z0 := by simpa using q0
        have q1' : v1 = .int .i64 z1 := by simpa using q1
        have q2' : v2 = .int .i64 z2 := by simpa using q2
        have q3' : v3 = .int .i64 z3 := by simpa using q3
        have q4' : v4 = .bool z4 := by simpa using q4
        subst q0' q1' q2' q3' q4'
        exact ⟨⟨z0, z1, z2, z3, z4⟩, ⟨by simpa [Addr.add] using e0, by simpa using e1, by simpa using e2, by simpa using e3, by simpa using e4⟩, i64_in_of_wf w1⟩
    obtain ⟨y, hy⟩ := choose_lt each
    refine ⟨some x, m, (List.range len).map y, by simp, fun d hd => ?_, fun h0 => ?_⟩
    · obtain ⟨j, hj, rfl⟩ := List.mem_map.1 hd
      exact (hy j (by have := List.mem_range.1 hj; omega)).2
    · have hlen : ((List.range len).map y).length = len := by simp
      rw [hlen] at h0
      obtain ⟨b, o, hbo⟩ : ∃ b o, x = ⟨b, o, none⟩ := by
        have h := (hy 0 (by omega)).1.1
        rw [show x.add (0 * 5) = x from by unfold Addr.add; simp] at h
        exact spot_of_cell h
      subst hbo
      refine ⟨b, o, rfl, fun j hj => ?_⟩
      rw [hlen] at hj
      have h := (hy j (by omega)).1
      simp only [Addr.add_lit] at h
      simpa using h
end Go.Proofs.Ytcfkmhmgappckaa
