/- slices.Repeat of one free mutex. Condition: at most 1000. -/
import Derived.Test.YtcfkmhmgappckaaUnlock
import Derived.Laws.CopyOwn
import Derived.Deep.RegionLaw
import Derived.Laws.MakeOwn
namespace Go.Proofs.Ytcfkmhmgappckaa
open Go.RowKit Go.Proofs.Ytcfkmhmgappckaa.Sc Go.Proofs.Ytcfkmhmgappckaa.PAll Go.Proofs.YtcfkmhmgappckaaW.PrintWords Go.Proofs.YtcfkmhmgappckaaW.PrintLast Go.Proofs.YtcfkmhmgappckaaW.PrintMore

theorem run_copy_sz (w : World) (dT sT ty elem : TypeId) (i : TypeInfo) (g o dLen dCap : Nat) (a : Addr) (sLen sCap : Nat) (cur : Array Value) (t : TypeId) (cs : List Value)
    (hu : Try.prog.underlying dT = some (.slice elem)) (hq : Try.prog.info? elem = some i)
    (hg : w.heap[g]? = some (.cells cur t (0, 0))) (hn : cs.length = Nat.min sLen dLen * i.size)
    (hsrc : ∀ j v, cs[j]? = some v → w.cell? (a.add j) = some v) (hfit : o + cs.length ≤ cur.size) (h1 : ∀ v ∈ cs, v.oneCell' = true) :
    (Builtin.copy_ #[dT, sT] ty #[.slice (some ⟨g, o, none⟩) dLen dCap, .slice (some a) sLen sCap]).run Try.prog w =
      .ok (goInt (Nat.min sLen dLen)) (w.setRow g (cur.toList.take o ++ cs ++ cur.toList.drop (o + cs.length)).toArray) := by
  have hl := run_firstCells_some (P := Try.prog) w i.size (Nat.min sLen dLen) a sLen sCap cs hn hsrc
  have hst := run_storeCells_at Try.prog g o t cs 0 cur w hg (by simpa using hfit) h1
  simp [Builtin.copy_, run_underlying hu, Builtin.lenOf, sizeOf, typeInfo, hq, hl, hst]
theorem infoMu : (Try.prog.info? 55).map (fun i => (i.zero, i.size, i.bytes)) = some (some (.agg #[.int .i64 0, .slice none 0 0]), 2, 32) := by kernel_rfl
/-- So many free mutexes, then empty places. -/
def reps (N k : Nat) : List (List Value) := List.replicate k [.int .i64 (-1), .slice none 0 0] ++ List.replicate (N - k) [.int .i64 0, .slice none 0 0]
theorem reps_two (N k : Nat) : ∀ c ∈ reps N k, c.length = 2 := by
  intro c hc
  rcases List.mem_append.1 hc with h | h <;> rw [List.eq_of_mem_replicate h] <;> rfl
theorem flat_len2 : ∀ (l : List (List Value)), (∀ c ∈ l, c.length = 2) → l.flatten.length = 2 * l.length
  | [], _ => rfl
  | c :: l, h => by
    rw [List.flatten_cons, List.length_append, h c (by simp), flat_len2 l (fun d hd => h d (by simp [hd])), List.length_cons]; omega
theorem reps_len (N k : Nat) (h : k ≤ N) : (reps N k).flatten.length = 2 * N := by
  rw [flat_len2 _ (reps_two N k)]; simp [reps]; omega
theorem reps_made (N : Nat) : madeCells #[.int .i64 0, .slice none 0 0] (N * 2) = (reps N 0).flatten.toArray := by
  apply Array.ext'
  rw [List.toList_toArray]
  apply List.ext_getElem?
  intro j
  by_cases hj : j < N * 2
  · have hd : j = 2 * (j / 2) + j % 2 := by omega
    have h2 := flat2 (reps N 0) (reps_two N 0) (j / 2) (j % 2) (by omega)
    rw [← hd] at h2
    rw [h2]
    have h3 : (reps N 0)[j / 2]? = some [.int .i64 0, .slice none 0 0] := by
      unfold reps
      simp only [List.replicate_zero, List.nil_append, Nat.sub_zero, List.getElem?_replicate]
      rw [if_pos (by omega)]
    rw [h3]
    simp only [madeCells, Array.toList_map, List.getElem?_map, Array.toList_range, List.getElem?_range hj, Option.map_some, Option.bind_some]
    rcases Nat.mod_two_eq_zero_or_one j with e | e <;> simp [e]
  · have h4 : (reps N 0).flatten.length ≤ j := by rw [reps_len N 0 (by omega)]; omega
    rw [List.getElem?_eq_none h4, List.getElem?_eq_none (by simp [madeCells]; omega)]
/-- What is copied is as what stands there. -/
def frees (m : Nat) : List Value := (List.replicate m [Value.int .i64 (-1), .slice none 0 0]).flatten
theorem frees_len (m : Nat) : (frees m).length = 2 * m := by
  unfold frees
  rw [flat_len2 _ (fun c hc => by rw [List.eq_of_mem_replicate hc]; rfl)]; simp
theorem frees_add (a b : Nat) : frees a ++ frees b = frees (a + b) := by
  unfold frees
  rw [← List.flatten_append, List.replicate_append_replicate]
def zeros (m : Nat) : List Value := (List.replicate m [Value.int .i64 0, .slice none 0 0]).flatten
theorem zeros_len (m : Nat) : (zeros m).length = 2 * m := by
  unfold zeros
  rw [flat_len2 _ (fun c hc => by rw [List.eq_of_mem_replicate hc]; rfl)]; simp
theorem zeros_add (a b : Nat) : zeros a ++ zeros b = zeros (a + b) := by
  unfold zeros
  rw [← List.flatten_append, List.replicate_append_replicate]
theorem reps_flat (N k : Nat) : (reps N k).flatten = frees k ++ zeros (N - k) := by simp [reps, frees, zeros]
theorem reps_copy (N k m : Nat) (h : k + m ≤ N) : (reps N k).flatten.take (2 * k) ++ frees m ++ (reps N k).flatten.drop (2 * k + (frees m).length) = (reps N (k + m)).flatten := by
  rw [reps_flat, reps_flat, ← frees_add, frees_len]
  have h1 : zeros (N - k) = zeros m ++ zeros (N - (k + m)) := by rw [zeros_add]; congr 1; omega
  rw [List.take_append_of_le_length (by rw [frees_len]; omega), List.take_of_length_le (by rw [frees_len]; omega), List.drop_append, List.drop_of_length_le (by rw [frees_len]; omega), frees_len, h1,
    show 2 * k + 2 * m - 2 * k = 2 * m by omega, List.nil_append, List.drop_append, List.drop_of_length_le (by rw [zeros_len]; omega), zeros_len, Nat.sub_self, List.drop_zero, List.nil_append]
theorem frees_cells (m j : Nat) (v : Value) (h : (frees m)[j]? = some v) (l : List Value) : (frees m ++ l)[j]? = some v := by
  rw [List.getElem?_append_left (by exact (List.getElem?_eq_some_iff.1 h).1)]; exact h
theorem frees_one (m : Nat) : ∀ v ∈ frees m, v.oneCell' = true := by
  intro v hv
  obtain ⟨c, hc, hv⟩ := List.mem_flatten.1 hv
  rw [List.eq_of_mem_replicate hc] at hv
  rcases List.mem_cons.1 hv with rfl | hv
  · rfl
  · obtain rfl := by simpa using hv
    rfl
theorem run_copy_reps (w : World) (ty : TypeId) (g o dLen dCap : Nat) (a : Addr) (sLen sCap N k m : Nat) (hok : o = 2 * k) (hg : w.heap[g]? = some (.cells (reps N k).flatten.toArray 55 (0, 0))) (hm : Nat.min sLen dLen = m) (hkm : k + m ≤ N)
    (hsrc : ∀ j v, (frees m)[j]? = some v → w.cell? (a.add j) = some v) :
    (Builtin.copy_ #[52, 52] ty #[.slice (some ⟨g, o, none⟩) dLen dCap, .slice (some a) sLen sCap]).run Try.prog w = .ok (goInt m) (w.setRow g (reps N (k + m)).flatten.toArray) := by
  obtain ⟨i0, hi, hz0, hz1, hz2⟩ := info_parts infoMu
  have hc := run_copy_sz w 52 52 ty 55 i0 g o dLen dCap a sLen sCap _ _ (frees m) Try.underlying52 hi hg (by rw [frees_len, hm, hz1]; omega) hsrc (by rw [List.size_toArray, reps_len N k (by omega), frees_len]; omega) (frees_one m)
  rw [hm] at hc
  rw [hc, List.toList_toArray, hok, reps_copy N k m hkm]
theorem wpList_copy_reps {ops : Array Oper} {rest : List Oper} {o : Oper} {a : Act} {Q : Exit → Act → World → Prop} (w : World) (hgd : o.guard = none) (d s : Operand)
    (ho : o.op = .call { callee := .builtin .copy, args := #[d, s], argTypes := #[52, 52] })
    (g off dLen dCap : Nat) (ad : Addr) (sLen sCap N k m : Nat) (hd : a.eval d = .slice (some ⟨g, off, none⟩) dLen dCap) (hs : a.eval s = .slice (some ad) sLen sCap) (hok : off = 2 * k) (hg : w.heap[g]? = some (.cells (reps N k).flatten.toArray 55 (0, 0))) (hm : Nat.min sLen dLen = m) (hkm : k + m ≤ N)
    (hsrc : ∀ j v, (frees m)[j]? = some v → w.cell? (ad.add j) = some v) (B : Nat) (w0 : World) (hb : Below B w0 w) (hBg : B ≤ g)
    (h : ∀ w', Hid (w'.heap[g]? = some (.cells (reps N (k + m)).flatten.toArray 55 (0, 0))) → Below B w0 w' → wpList Try.prog ops Q rest (a.put o.dst (goInt m)) w') : wpList Try.prog ops Q (o :: rest) a w := by
  have hrun := run_copy_reps w o.type g off dLen dCap ad sLen sCap N k m hok hg hm hkm hsrc
  refine wpList_plain hgd fun K hK => ?_
  unfold Oper.wp
  simp [execOp, ho, resolve, invoke, builtin, hd, hs, hrun, Result.andThen]
  exact hK _ _ (h _ (show _ = _ from setRow_heap w g _ _ _ _ hg) (below_setRow hb hBg _))
theorem step_copy_reps {ops : Array Oper} {o : Oper} {a : Act} {w : World} {K : Act → World → Prop} {Q : Exit → Act → World → Prop} {E : Prop} (hgd : o.guard = none) (d s : Operand)
    (ho : o.op = .call { callee := .builtin .copy, args := #[d, s], argTypes := #[52, 52] })
    (g off dLen dCap : Nat) (ad : Addr) (sLen sCap N k m : Nat) (hd : a.eval d = .slice (some ⟨g, off, none⟩) dLen dCap) (hs : a.eval s = .slice (some ad) sLen sCap) (hok : off = 2 * k) (hg : w.heap[g]? = some (.cells (reps N k).flatten.toArray 55 (0, 0))) (hm : Nat.min sLen dLen = m) (hkm : k + m ≤ N)
    (hsrc : ∀ j v, (frees m)[j]? = some v → w.cell? (ad.add j) = some v) (B : Nat) (w0 : World) (hb : Below B w0 w) (hBg : B ≤ g)
    (h : ∀ w', Hid (w'.heap[g]? = some (.cells (reps N (k + m)).flatten.toArray 55 (0, 0))) → Below B w0 w' → K (a.put o.dst (goInt m)) w') :
    if Region.wanted o (yielded ops a.tmps) = true then Oper.wp Try.prog o a w K Q else E := by
  have hrun := run_copy_reps w o.type g off dLen dCap ad sLen sCap N k m hok hg hm hkm hsrc
  have hw : Region.wanted o (yielded ops a.tmps) = true := by simp [Region.wanted, hgd]
  rw [if_pos hw]
  unfold Oper.wp
  simp [execOp, ho, resolve, invoke, builtin, hd, hs, hrun, Result.andThen]
  exact h _ (show _ = _ from setRow_heap w g _ _ _ _ hg) (below_setRow hb hBg _)
theorem reps_src (w : World) (g N k m : Nat) (hm : m ≤ k) (h : w.heap[g]? = some (.cells (reps N k).flatten.toArray 55 (0, 0))) : ∀ j v, (frees m)[j]? = some v → w.cell? ((⟨g, 0, none⟩ : Addr).add j) = some v := by
  intro j v hv
  rw [Addr.add_lit, Nat.zero_add]
  unfold World.cell?
  simp only [h]
  have h1 : frees k = frees m ++ frees (k - m) := by rw [frees_add]; congr 1; omega
  have : (reps N k).flatten[j]? = some v := by
    rw [reps_flat, h1, List.append_assoc]
    exact frees_cells m j v hv _
  simpa using this
theorem mul_one (n : Nat) (h : n ≤ 1000) : bits_Mul.f 1 (n : Int) = some (0, (n : Int)) := by
  have hall : ∀ n : Fin 1001, bits_Mul.f 1 (n.val : Int) = some (0, (n.val : Int)) := by decide +kernel
  exact hall ⟨n, by omega⟩
end Go.Proofs.Ytcfkmhmgappckaa
