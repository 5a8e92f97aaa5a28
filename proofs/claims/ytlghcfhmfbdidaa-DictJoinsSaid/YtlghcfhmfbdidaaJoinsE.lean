/- DictJoins: the printed function answers true. Condition: the number is one of 64 bits. -/
import Derived.Test.YtlghcfhmfbdidaaJoinsP
import Derived.Test.YtlghcfhmfbdidaaMakesPlain
import Derived.Test.YtlghcfhmfbdidaaJAllx3
namespace Go.Proofs.Ytlghcfhmfbdidaa
open Go.RowKit Go.Shelf Go.Proofs.Ytlghcfhmfbdidaa.PAll Go.Proofs.YtlghcfhmfbdidaaW.PrintWords Go.Proofs.YtlghcfhmfbdidaaW.PrintLast

theorem putAll_append (l xs ys : List ByteArray) : putAll l (xs ++ ys) = putAll (putAll l xs) ys := by unfold putAll; rw [List.foldl_append]
theorem rd_nth (l : List ByteArray) (j : Nat) : rdOf ByteArray.empty l (j : Int) = nth l j := by unfold nth; rfl
theorem take_nth (l : List ByteArray) (j : Nat) (h : j < l.length) : l.take (j + 1) = l.take j ++ [nth l j] := by
  rw [List.take_succ_eq_append_getElem h, nth_eq l j h]
/-- One list's names are put. -/
theorem join_row (L : List (List ByteArray)) (i : Nat) (hi : i < L.length) (T : List ByteArray) (hL : L.length ≤ 1000) (hf : (joinTo L i).length ≤ 50000) (hrow : (rd_L2 L (i : Int)).length ≤ 10000)
    (hnext : Ev (fun k => concordanceref07_Join.l0 k L (putAll [] (joinTo L (i + 1))) ((i + 1 : Nat) : Int)) T) :
    ∀ e j : Nat, j + e = (rd_L2 L (i : Int)).length → Ev (fun k => concordanceref07_Join.l1 k L (putAll [] (joinTo L i ++ (rd_L2 L (i : Int)).take j)) (i : Int) (j : Int)) T
  | 0, j, hj => by
    have e1 : (rd_L2 L (i : Int)).take j = rd_L2 L (i : Int) := List.take_of_length_le (by omega)
    rw [e1, ← joinTo_succ L i hi]
    refine Ev.step (fun k => by rw [concordanceref07_Join.l1, wrap_small (i + 1) (by omega)]) ?_
    refine Ev.pos (by omega) (Ev.pos (by omega) (Ev.neg (by omega) ?_))
    exact_mod_cast hnext
  | e + 1, j, hj => by
    have ih := join_row L i hi T hL hf hrow hnext e (j + 1) (by omega)
    rw [take_nth _ _ (by omega), ← List.append_assoc, putAll_append [] _ [nth (rd_L2 L (i : Int)) j]] at ih
    have hl := putAll_len (joinTo L i ++ (rd_L2 L (i : Int)).take j) []
    simp only [List.length_nil, List.length_append, List.length_take] at hl
    refine Ev.step (fun k => by rw [concordanceref07_Join.l1, wrap_small (j + 1) (by omega)]) ?_
    refine Ev.pos (by omega) (Ev.pos (by omega) (Ev.pos (by omega) (Ev.pos (by omega) ?_)))
    rw [rd_nth]
    refine Ev.bind (put_ev _ _ (by omega)) ?_
    exact_mod_cast ih
theorem join_loop (L : List (List ByteArray)) (hL : L.length ≤ 1000) (hf : L.flatten.length ≤ 10000) : ∀ d i : Nat, i + d = L.length → Ev (fun k => concordanceref07_Join.l0 k L (putAll [] (joinTo L i)) (i : Int)) (putAll [] L.flatten)
  | 0, i, hi => by
    have e1 : joinTo L i = L.flatten := by unfold joinTo; rw [List.take_of_length_le (by omega)]
    rw [e1]
    exact Ev.step (fun k => by rw [concordanceref07_Join.l0]) (Ev.neg (by omega) (Ev.ret rfl))
  | d + 1, i, hi => by
    have ih := join_loop L hL hf d (i + 1) (by omega)
    have h1 := sizeTo_le L i
    have h2 := sizeTo_le L (i + 1)
    rw [sizeTo_succ L i (by omega)] at h2
    have h3 : (joinTo L i).length ≤ 10000 := Nat.le_trans h1 hf
    refine Ev.step (fun k => by rw [concordanceref07_Join.l0]) (Ev.pos (by omega) ?_)
    have := join_row L i (by omega) _ hL (by omega) (by omega) ih (rd_L2 L (i : Int)).length 0 (by omega)
    rw [List.take_zero, List.append_nil] at this
    exact_mod_cast this
theorem join_ev (L : List (List ByteArray)) (hL : L.length ≤ 1000) (hf : L.flatten.length ≤ 10000) : Ev (fun k => concordanceref07_Join.f k L) (putAll [] L.flatten) := by
  have := join_loop L hL hf L.length 0 (by omega)
  exact_mod_cast this

theorem samej_loop (l : List ByteArray) (hl : l.length ≤ 1000000) : ∀ d i : Nat, i + d = l.length → Ev (fun k => concordanceref02_Same.l0 k l l (i : Int)) true
  | 0, i, hi => Ev.step (fun k => by rw [concordanceref02_Same.l0]) (Ev.neg (by omega) (Ev.ret rfl))
  | d + 1, i, hi => by
    have ih := samej_loop l hl d (i + 1) (by omega)
    refine Ev.step (fun k => by rw [concordanceref02_Same.l0, wrap_small (i + 1) (by omega)]) ?_
    exact Ev.pos (by omega) (Ev.pos (by omega) (Ev.pos (by omega) (Ev.pos rfl (by exact_mod_cast ih))))
theorem samej_ev (l : List ByteArray) (hl : l.length ≤ 1000000) : Ev (fun k => concordanceref02_Same.f k l l) true := by
  unfold concordanceref02_Same.f
  exact Ev.pos rfl (samej_loop l hl l.length 0 (by omega))
theorem bl0 : Lib.bitLen 0 = 0 := by decide
/-- How many halvings. -/
theorem probes_loop : ∀ (m x : Nat) (c : Nat), x ≤ m → x ≤ 9223372036854775807 → c + Lib.bitLen x ≤ 1000 → Ev (fun k => concordanceref07_Probes.l0 k (x : Int) (c : Int)) ((c + Lib.bitLen x : Nat) : Int) := by
  intro m
  induction m with
  | zero =>
    intro x c hx _ _
    obtain rfl : x = 0 := by omega
    refine Ev.step (fun k => by rw [concordanceref07_Probes.l0]) (Ev.neg (by omega) (Ev.ret ?_))
    rw [bl0]; simp
  | succ m ih =>
    intro x c hx hb hc
    by_cases h0 : x = 0
    · subst h0
      refine Ev.step (fun k => by rw [concordanceref07_Probes.l0]) (Ev.neg (by omega) (Ev.ret ?_))
      rw [bl0]; simp
    · have hbl : Lib.bitLen x = Lib.bitLen (x / 2) + 1 := by rw [Lib.bitLen_half x h0 (by omega)]; omega
      have h1 := ih (x / 2) (c + 1) (by omega) (by omega) (by omega)
      have e1 : wrap64 (Int.tdiv (x : Int) 2) = ((x / 2 : Nat) : Int) := by rw [Int.tdiv_eq_ediv_of_nonneg (by omega), wrap_small _ (by omega)]; omega
      refine Ev.step (fun k => by rw [concordanceref07_Probes.l0, e1, wrap_small (c + 1) (by omega)]) (Ev.pos (by omega) ?_)
      rw [hbl, show c + (Lib.bitLen (x / 2) + 1) = c + 1 + Lib.bitLen (x / 2) by omega]
      exact_mod_cast h1
theorem bitLen_le : ∀ (k x : Nat), k ≤ 64 → x < 2 ^ k → Lib.bitLen x ≤ k
  | 0, x, _, h => by
    obtain rfl : x = 0 := by omega
    rw [bl0]; exact Nat.le_refl _
  | k + 1, x, hk, h => by
    have hx64 : x < 2 ^ 64 := Nat.lt_of_lt_of_le h (Nat.pow_le_pow_right (by decide) hk)
    by_cases h0 : x = 0
    · subst h0; rw [bl0]; exact Nat.zero_le _
    · have hbl : Lib.bitLen x = Lib.bitLen (x / 2) + 1 := by rw [Lib.bitLen_half x h0 (by omega)]; omega
      have := bitLen_le k (x / 2) (by omega) (by rw [Nat.pow_succ] at h; omega)
      omega
theorem probes_ev (n : Int) (h1 : -9223372036854775808 ≤ n) (h2 : n ≤ 9223372036854775807) : Ev (fun k => concordanceref07_Probes.f k n) ((Lib.bitLen n.toNat : Nat) : Int) := by
  by_cases h0 : 0 < n
  · obtain ⟨x, rfl⟩ : ∃ x : Nat, n = (x : Int) := ⟨n.toNat, by omega⟩
    have hb := bitLen_le 63 x (by omega) (by omega)
    have := probes_loop x x 0 (Nat.le_refl _) (by omega) (by omega)
    rw [Int.toNat_natCast]
    rw [Nat.zero_add] at this
    exact_mod_cast this
  · rw [show n.toNat = 0 by omega]
    refine Ev.step (fun k => by rw [concordanceref07_Probes.f, concordanceref07_Probes.l0]) (Ev.neg (by omega) (Ev.ret ?_))
    rw [bl0]; simp
theorem dprobes (n : Int) (h1 : -9223372036854775808 ≤ n) (h2 : n ≤ 9223372036854775807) : dict_Probes.f n = some ((Lib.bitLen n.toNat : Nat) : Int) := by
  unfold dict_Probes.f bits_Len.f
  have e : IntKind.u64.wrap (mx n 0) = ((n.toNat : Nat) : Int) := by rw [IntKind.wrap_u64]; unfold mx; omega
  rw [e, if_pos (by omega), Int.toNat_natCast]; rfl

/-- The lists that are made of those that are handed in. -/
def ownM (l : List (List ByteArray)) : Nat → List (List ByteArray)
  | 0 => []
  | i + 1 => ownM l i ++ [fewL ((rd_L2 l (i : Int)).take (min (rd_L2 l (i : Int)).length 10))]
theorem ownM_len (l : List (List ByteArray)) : ∀ i, (ownM l i).length = i
  | 0 => rfl
  | i + 1 => by unfold ownM; rw [List.length_append, ownM_len l i]; rfl
theorem ownM_flat (l : List (List ByteArray)) : ∀ i, (ownM l i).flatten.length ≤ 20 * i
  | 0 => by simp [ownM]
  | i + 1 => by
    have := ownM_flat l i
    have h2 := fewL_len ((rd_L2 l (i : Int)).take (min (rd_L2 l (i : Int)).length 10))
    unfold ownM
    rw [List.flatten_append, List.length_append, List.flatten_singleton]; omega
theorem joins_end (n : Int) (h1 : -9223372036854775808 ≤ n) (h2 : n ≤ 9223372036854775807) (L : List (List ByteArray)) (hL : L.length ≤ 5) (hf : L.flatten.length ≤ 100) : Ev (fun k => concordancelaw07_DictJoins.j1 k n L) true := by
  have hj : dict_Join.f L = some (putAll [] L.flatten) := by
    unfold dict_Join.f dict_sorted_string.f
    rw [if_pos ⟨by omega, by omega⟩, sorted_eq]; rfl
  have hl := putAll_len L.flatten []
  simp only [List.length_nil] at hl
  refine Ev.step (fun k => by rw [concordancelaw07_DictJoins.j1]) ?_
  refine Ev.const hj (Ev.bind (join_ev L (by omega) (by omega)) (Ev.bind (samej_ev _ (by omega)) (Ev.pos rfl ?_)))
  exact Ev.const (dprobes n h1 h2) (Ev.bind (probes_ev n h1 h2) (Ev.pos rfl (Ev.const rfl (Ev.ret rfl))))
theorem joins_loop (l : List (List ByteArray)) (n : Int) (h1 : -9223372036854775808 ≤ n) (h2 : n ≤ 9223372036854775807) : ∀ d i : Nat, i + d = min l.length 5 → Ev (fun k => concordancelaw07_DictJoins.l0 k l n (ownM l i) (i : Int)) true
  | 0, i, hi => by
    have hlen := ownM_len l i
    have hfl := ownM_flat l i
    have hend := joins_end n h1 h2 (ownM l i) (by omega) (by omega)
    refine Ev.step (fun k => by rw [concordancelaw07_DictJoins.l0]) ?_
    by_cases h : (i : Int) < (l.length : Int)
    · exact Ev.pos h (Ev.neg (by omega) hend)
    · exact Ev.neg h hend
  | d + 1, i, hi => by
    have ih := joins_loop l n h1 h2 d (i + 1) (by omega)
    have hlen := ownM_len l i
    have hmn : mn ((rd_L2 l (i : Int)).length : Int) 10 = ((min (rd_L2 l (i : Int)).length 10 : Nat) : Int) := by unfold mn; omega
    refine Ev.step (fun k => by rw [concordancelaw07_DictJoins.l0, wrap_small (i + 1) (by omega), hmn]) ?_
    refine Ev.pos (by omega) (Ev.pos (by omega) (Ev.pos (by omega) (Ev.pos (by omega) (Ev.pos (by omega) ?_))))
    rw [Int.toNat_natCast]
    refine Ev.bind (few_ev _) (Ev.pos (by omega) ?_)
    exact_mod_cast ih
theorem dictJoins_ev (l : List (List ByteArray)) (n : Int) (h1 : -9223372036854775808 ≤ n) (h2 : n ≤ 9223372036854775807) : ∃ k, concordancelaw07_DictJoins.f k l n = some true :=
  Ev.rounds (g := fun k => concordancelaw07_DictJoins.f k l n) (by have := joins_loop l n h1 h2 (min l.length 5) 0 (by omega); exact_mod_cast this)

theorem dictJoins_walk (A0 : Option Addr) (c0 : Nat) (l : List (List ByteArray)) (n : Int) (w : World) (hr0 : Kd.C (Kd.slice 9 Kd.string) w A0 l.length l) (hc0 : l.length ≤ c0) (hn : (Lit.int .i64 n).wf = true) :
    Calls Try.prog 8 #[.slice A0 l.length c0, .int .i64 n] w fun e w' => e = .returned (.bool true) ∧ Below w.heap.size w w' := by
  have hnb : IntKind.i64.min ≤ n ∧ n ≤ IntKind.i64.max := by simpa [Lit.wf] using hn
  have hmin : IntKind.i64.min = -9223372036854775808 := rfl
  have hmax : IntKind.i64.max = 9223372036854775807 := rfl
  rw [hmin, hmax] at hnb
  obtain ⟨k, hk⟩ := dictJoins_ev l n hnb.1 hnb.2
  exact concordancelaw07_DictJoins.calls k A0 c0 l n true w hr0 hc0 hk
end Go.Proofs.Ytlghcfhmfbdidaa
