/- The document's Keys, Postings, and which postings are the same, plain. Condition: few bytes. -/
import Derived.Test.YteidebllianiiaaGreatDoorTellsP
import Derived.Test.YteidebllianiiaaGreatDoorPAllx20
set_option linter.unusedVariables false
set_option linter.unusedSimpArgs false
namespace Go.Proofs.YteidebllianiiaaGreatDoor
open Go.RowKit Go.Proofs.YteidebllianiiaaGreatDoor.PAll Go.Proofs.YteidebllianiiaaGreatDoorW.PrintWords Go.Proofs.YteidebllianiiaaGreatDoorW.PrintLast Go.Proofs.YteidebllianiiaaGreatDoorW.PrintMore

/-! ### a text among rising ones -/
def ltK (x a : ByteArray) : Bool := decide (x.data.toList < a.data.toList)
def insK : List ByteArray → ByteArray → List ByteArray
  | [], a => [a]
  | x :: l, a => if ltK x a = true then x :: insK l a else if x = a then x :: l else a :: x :: l
def posK (l : List ByteArray) (a : ByteArray) : Nat := (l.takeWhile (fun x => ltK x a)).length
theorem posK_le (l : List ByteArray) (a : ByteArray) : posK l a ≤ l.length := (List.takeWhile_sublist (fun x => ltK x a)).length_le
theorem posK_lo (l : List ByteArray) (a : ByteArray) (q : Nat) (hq : q < posK l a) : ltK (l[q]'(Nat.lt_of_lt_of_le hq (posK_le l a))) a = true := by
  induction l generalizing q with
  | nil => simp [posK] at hq
  | cons x l ih =>
    by_cases h : ltK x a = true
    · have e : posK (x :: l) a = posK l a + 1 := by unfold posK; rw [List.takeWhile_cons, if_pos h]; rfl
      cases q with
      | zero => exact h
      | succ q => exact ih q (by omega)
    · have e : posK (x :: l) a = 0 := by unfold posK; rw [List.takeWhile_cons, if_neg h]; rfl
      omega
theorem posK_hi (l : List ByteArray) (a : ByteArray) (h : posK l a < l.length) : ¬ ltK l[posK l a] a = true := by
  induction l with
  | nil => simp at h
  | cons x l ih =>
    by_cases hx : ltK x a = true
    · have e : posK (x :: l) a = posK l a + 1 := by unfold posK; rw [List.takeWhile_cons, if_pos hx]; rfl
      have := ih (by rw [e, List.length_cons] at h; omega)
      simp only [e, List.getElem_cons_succ]
      exact this
    · have e : posK (x :: l) a = 0 := by unfold posK; rw [List.takeWhile_cons, if_neg hx]; rfl
      simp only [e, List.getElem_cons_zero]
      exact hx
theorem insK_eq (l : List ByteArray) (a : ByteArray) : insK l a = if l[posK l a]? = some a then l else l.take (posK l a) ++ a :: l.drop (posK l a) := by
  induction l with
  | nil => rfl
  | cons x l ih =>
    unfold insK
    by_cases hx : ltK x a = true
    · have e : posK (x :: l) a = posK l a + 1 := by unfold posK; rw [List.takeWhile_cons, if_pos hx]; rfl
      rw [if_pos hx, ih, e, List.getElem?_cons_succ]
      split
      · rfl
      · rfl
    · have e : posK (x :: l) a = 0 := by unfold posK; rw [List.takeWhile_cons, if_neg hx]; rfl
      rw [if_neg hx, e, List.getElem?_cons_zero]
      by_cases hxa : x = a
      · rw [if_pos hxa, if_pos (by rw [hxa])]
      · rw [if_neg hxa, if_neg (fun h => hxa (Option.some.inj h))]
        rfl
theorem bl_lt (x a : ByteArray) : Op.bytesLess x.toList a.toList = true ↔ ltK x a = true := by
  rw [bytesLess_lt, ByteArray.toList_eq, ByteArray.toList_eq]
  unfold ltK
  rw [decide_eq_true_iff]
theorem place_loop (l : List ByteArray) (a : ByteArray) (hn : l.length ≤ 1000000000) (d : Nat) : ∀ i : Nat, i + d = posK l a → Ev (fun k => concordanceref07_Place.l0 k l a (i : Int)) (((posK l a : Nat) : Int), decide (l[posK l a]? = some a)) := by
  have hle := posK_le l a
  induction d with
  | zero =>
    intro i hi
    obtain rfl : i = posK l a := by omega
    refine Ev.step (fun k => by rw [concordanceref07_Place.l0]) ?_
    by_cases h : posK l a < l.length
    · rw [rdS_nat l _ h]
      refine Ev.pos (by omega) <| Ev.pos (by omega) <| Ev.neg (fun hb => posK_hi l a h ((bl_lt _ _).1 hb)) (Ev.ret ?_)
      rw [List.getElem?_eq_getElem h]
      congr 1
      by_cases e : l[posK l a] = a
      · rw [e]; simp
      · rw [beq_eq_false_iff_ne.2 (fun h2 => e (bytes_ne.1 h2)), decide_eq_false (fun h2 => e (Option.some.inj h2))]
    · refine Ev.neg (by omega) (Ev.ret ?_)
      rw [show posK l a = l.length by omega, List.getElem?_eq_none (Nat.le_refl _)]
      rfl
  | succ d ih =>
    intro i hi
    have hil : i < l.length := by omega
    refine Ev.step (fun k => by rw [concordanceref07_Place.l0, rdS_nat l i hil, wrap_nat i (by omega)]) ?_
    exact Ev.pos (by omega) <| Ev.pos (by omega) <| Ev.pos ((bl_lt _ _).2 (posK_lo l a i (by omega))) (ih (i + 1) (by omega))
theorem put_ev (l : List ByteArray) (a : ByteArray) (hn : l.length ≤ 1000000000) : Ev (fun k => concordanceref07_Put.f k l a) (insK l a) := by
  have hle := posK_le l a
  unfold concordanceref07_Put.f
  have hp : Ev (fun k => concordanceref07_Place.f k l a) (((posK l a : Nat) : Int), decide (l[posK l a]? = some a)) := by
    unfold concordanceref07_Place.f
    exact place_loop l a hn (posK l a) 0 (by omega)
  refine Ev.bind hp ?_
  rw [insK_eq]
  by_cases h : l[posK l a]? = some a
  · exact Ev.pos (decide_eq_true h) (Ev.ret (by rw [if_pos h]))
  · have htl : (l.take (posK l a)).length = posK l a := by rw [List.length_take]; omega
    refine Ev.neg (by simp [h]) <| Ev.pos (by show (0 : Int) ≤ ((posK l a : Nat) : Int); omega) <| Ev.pos (by show ((posK l a : Nat) : Int) ≤ _; omega) <| Ev.const rfl <| Ev.pos (by simp; omega) <| Ev.const rfl <| Ev.pos (by simp; omega) <| Ev.const rfl <| Ev.const rfl <| Ev.pos (by simp; omega) <| Ev.ret ?_
    rw [if_neg h, Int.toNat_natCast]
    simp
theorem insK_len (l : List ByteArray) (a : ByteArray) : (insK l a).length ≤ l.length + 1 := by
  induction l with
  | nil => simp [insK]
  | cons x l ih =>
    unfold insK
    split
    · simp only [List.length_cons]; omega
    · split
      · simp
      · simp
theorem mem_insK (l : List ByteArray) (a s : ByteArray) : s ∈ insK l a ↔ s ∈ l ∨ s = a := by
  induction l with
  | nil => simp [insK]
  | cons x l ih =>
    unfold insK
    split
    · rw [List.mem_cons, ih, List.mem_cons, or_assoc]
    · split
      · rename_i h
        subst h
        constructor
        · exact .inl
        · rintro (h | rfl)
          · exact h
          · exact List.mem_cons_self
      · rw [List.mem_cons, or_comm]
def SortK (l : List ByteArray) : Prop := l.Pairwise (fun a b => a.data.toList < b.data.toList)
theorem lt_of_not {a x : ByteArray} (h : ¬ ltK x a = true) (hne : x ≠ a) : a.data.toList < x.data.toList := by
  have h1 : ¬ x.data.toList < a.data.toList := by unfold ltK at h; simpa using h
  refine Classical.byContradiction fun hn => hne ?_
  have e : a.data.toList = x.data.toList := List.le_antisymm h1 hn
  have := strOfLK a
  rw [← strOfLK a, ← strOfLK x, e]
where strOfLK (s : ByteArray) : (⟨s.data.toList.toArray⟩ : ByteArray) = s := by cases s; rfl
theorem sort_insK {l : List ByteArray} (a : ByteArray) (h : SortK l) : SortK (insK l a) := by
  induction l with
  | nil => simp [insK, SortK]
  | cons x l ih =>
    obtain ⟨h1, h2⟩ := List.pairwise_cons.1 h
    unfold insK
    split
    · rename_i hx
      refine List.pairwise_cons.2 ⟨fun y hy => ?_, ih h2⟩
      rcases (mem_insK l a y).1 hy with hy | rfl
      · exact h1 y hy
      · unfold ltK at hx; simpa using hx
    · split
      · exact h
      · rename_i hx hne
        have hax := lt_of_not hx hne
        refine List.pairwise_cons.2 ⟨fun y hy => ?_, h⟩
        rcases List.mem_cons.1 hy with rfl | hy
        · exact hax
        · exact List.lt_trans hax (h1 y hy)
theorem sort_unique {a b : List ByteArray} (ha : SortK a) (hb : SortK b) (h : ∀ s, s ∈ a ↔ s ∈ b) : a = b := by
  have na : a.Nodup := ha.imp (fun {x y} hxy e => by subst e; exact List.lt_irrefl _ hxy)
  have nb : b.Nodup := hb.imp (fun {x y} hxy e => by subst e; exact List.lt_irrefl _ hxy)
  exact List.Perm.eq_of_pairwise (le := fun x y : ByteArray => x.data.toList < y.data.toList) (fun x y _ _ h1 h2 => (List.lt_asymm h1 h2).elim) ha hb ((List.perm_ext_iff_of_nodup na nb).2 h)
/-! ### Keys -/
def keysD (acc : List ByteArray) (T : List Tm) : List ByteArray := T.foldl (fun l t => insK l (keyS t)) acc
def keys9 (L : List Ent) : List ByteArray := L.foldl (fun acc e => keysD acc (termsOf (occ e.f0.f1))) []
theorem keysD_len (T : List Tm) : ∀ acc, (keysD acc T).length ≤ acc.length + T.length := by
  induction T with
  | nil => intro acc; simp [keysD]
  | cons t T ih =>
    intro acc
    have := ih (insK acc (keyS t))
    have := insK_len acc (keyS t)
    have e : keysD acc (t :: T) = keysD (insK acc (keyS t)) T := rfl
    rw [e, List.length_cons]
    omega
theorem keysD_take (acc : List ByteArray) (T : List Tm) (j : Nat) (h : j < T.length) : keysD acc (T.take (j + 1)) = insK (keysD acc (T.take j)) (keyS T[j]) := by
  unfold keysD
  rw [List.take_succ_eq_append_getElem h, List.foldl_append]
  rfl
theorem keys9_take (L : List Ent) (i : Nat) (h : i < L.length) : keys9 (L.take (i + 1)) = keysD (keys9 (L.take i)) (termsOf (occ L[i].f0.f1)) := by
  unfold keys9
  rw [List.take_succ_eq_append_getElem h, List.foldl_append]
  rfl
theorem keys9_len {L : List Ent} (h : ∀ e ∈ L, Fit9 e) : ∀ i, i ≤ L.length → (keys9 (L.take i)).length ≤ 500 * i := by
  intro i
  induction i with
  | zero => intro _; simp [keys9]
  | succ i ih =>
    intro hi
    have h1 := ih (by omega)
    rw [keys9_take L i (by omega)]
    have h2 := keysD_len (termsOf (occ L[i].f0.f1)) (keys9 (L.take i))
    have h3 := termsOf_len' (occ L[i].f0.f1)
    have h4 := (h _ (List.getElem_mem (show i < L.length by omega))).okE.2.2
    omega
theorem keysD_mem (T : List Tm) (s : ByteArray) : ∀ acc, s ∈ keysD acc T ↔ s ∈ acc ∨ ∃ t ∈ T, keyS t = s := by
  induction T with
  | nil => intro acc; simp [keysD]
  | cons t T ih =>
    intro acc
    have e : keysD acc (t :: T) = keysD (insK acc (keyS t)) T := rfl
    rw [e, ih, mem_insK]
    clear e
    constructor
    · rintro ((h | rfl) | ⟨u, hu, e2⟩)
      · exact .inl h
      · exact .inr ⟨t, List.mem_cons_self, rfl⟩
      · exact .inr ⟨u, List.mem_cons_of_mem _ hu, e2⟩
    · rintro (h | ⟨u, hu, e2⟩)
      · exact .inl (.inl h)
      · rcases List.mem_cons.1 hu with rfl | hu
        · exact .inl (.inr e2.symm)
        · exact .inr ⟨u, hu, e2⟩
theorem keysD_sort (T : List Tm) : ∀ acc, SortK acc → SortK (keysD acc T) := by
  induction T with
  | nil => intro acc h; exact h
  | cons t T ih => intro acc h; exact ih _ (sort_insK _ h)
theorem keys9_spec (L : List Ent) : SortK (keys9 L) ∧ ∀ s, s ∈ keys9 L ↔ ∃ e ∈ L, ∃ t ∈ termsOf (occ e.f0.f1), keyS t = s := by
  have h : ∀ (M : List Ent) (acc : List ByteArray), SortK acc → SortK (M.foldl (fun acc e => keysD acc (termsOf (occ e.f0.f1))) acc) ∧ ∀ s, s ∈ M.foldl (fun acc e => keysD acc (termsOf (occ e.f0.f1))) acc ↔ s ∈ acc ∨ ∃ e ∈ M, ∃ t ∈ termsOf (occ e.f0.f1), keyS t = s := by
    intro M
    induction M with
    | nil => intro acc h; exact ⟨h, by simp⟩
    | cons e M ih =>
      intro acc h
      obtain ⟨h1, h2⟩ := ih (keysD acc (termsOf (occ e.f0.f1))) (keysD_sort _ _ h)
      refine ⟨h1, fun s => ?_⟩
      rw [List.foldl_cons, h2, keysD_mem]
      constructor
      · rintro ((h | ⟨t, ht, e1⟩) | ⟨q, hq, t, ht, e1⟩)
        · exact .inl h
        · exact .inr ⟨e, List.mem_cons_self, t, ht, e1⟩
        · exact .inr ⟨q, List.mem_cons_of_mem _ hq, t, ht, e1⟩
      · rintro (h | ⟨q, hq, t, ht, e1⟩)
        · exact .inl (.inl h)
        · rcases List.mem_cons.1 hq with rfl | hq
          · exact .inl (.inr ⟨t, ht, e1⟩)
          · exact .inr ⟨q, hq, t, ht, e1⟩
  obtain ⟨h1, h2⟩ := h L [] List.Pairwise.nil
  exact ⟨h1, fun s => by unfold keys9; rw [h2]; simp⟩
theorem posts_ne (L : List Ent) (s : ByteArray) : posts L s ≠ [] ↔ ∃ e ∈ L, ∃ t ∈ termsOf (occ e.f0.f1), keyS t = s := by
  constructor
  · intro h
    obtain ⟨p, hp⟩ := List.exists_mem_of_ne_nil _ h
    unfold posts at hp
    obtain ⟨x, hx, hp⟩ := List.mem_flatMap.1 hp
    obtain ⟨hi, ex⟩ := zip_mem hx
    unfold docPosts at hp
    obtain ⟨t, ht, _⟩ := List.mem_map.1 hp
    exact ⟨x.1, ex ▸ List.getElem_mem hi, t, (List.mem_filter.1 ht).1, by simpa using (List.mem_filter.1 ht).2⟩
  · rintro ⟨e, he, t, ht, rfl⟩ hnil
    obtain ⟨i, hi, rfl⟩ := List.mem_iff_getElem.1 he
    have hz : (L[i], i) ∈ L.zipIdx := by
      refine List.mem_iff_getElem.2 ⟨i, by simpa using hi, ?_⟩
      rw [List.getElem_zipIdx]; simp
    have hmem : (⟨(i : Int), placesIn (occ L[i].f0.f1) t⟩ : Pst) ∈ posts L (keyS t) := by
      unfold posts
      refine List.mem_flatMap.2 ⟨_, hz, ?_⟩
      unfold docPosts
      exact List.mem_map.2 ⟨t, List.mem_filter.2 ⟨ht, by simp⟩, rfl⟩
    rw [hnil] at hmem
    cases hmem
theorem keys_eq {L : List Ent} {X : List ByteArray} (h : IsKeys (posts L) X) : X = keys9 L := by
  obtain ⟨h1, h2⟩ := keys9_spec L
  exact sort_unique h.1 h1 (fun s => by rw [h.2, posts_ne, h2])
theorem keysL1 (L : List Ent) (hn : L.length ≤ 1000) (i : Nat) (hi : i < L.length) (hf : Fit9 L[i]) (acc : List ByteArray) (ha : acc.length ≤ 1000000) (r : List ByteArray)
    (hk : Ev (fun k => concordanceref09_Keys.l0 k L (keysD acc (termsOf (occ L[i].f0.f1))) ((i + 1 : Nat) : Int)) r) (d : Nat) :
    ∀ j : Nat, j + d = (termsOf (occ L[i].f0.f1)).length → Ev (fun k => concordanceref09_Keys.l1 k L (keysD acc ((termsOf (occ L[i].f0.f1)).take j)) (i : Int) ((termsOf (occ L[i].f0.f1)).map toS) (j : Int)) r := by
  have hcl := (fit_clean hf).1
  have htl := termsOf_len' (occ L[i].f0.f1)
  have hoc := hf.okE.2.2
  generalize termsOf (occ L[i].f0.f1) = T at hk hcl htl ⊢
  induction d with
  | zero =>
    intro j hj
    refine Ev.step (fun k => by rw [concordanceref09_Keys.l1, wrap_nat i (by omega)]) (Ev.neg (by rw [List.length_map]; omega) ?_)
    rw [show T.take j = T by rw [show j = T.length by omega, List.take_length]]
    exact hk
  | succ d ih =>
    intro j hj
    have hjl : j < T.length := by omega
    have hkl := keysD_len (T.take j) acc
    have htk : (T.take j).length ≤ T.length := by rw [List.length_take]; omega
    refine Ev.step (fun k => by rw [concordanceref09_Keys.l1, toS_rd T j hjl, wrap_nat j (by omega)]) ?_
    refine Ev.pos (by rw [List.length_map]; omega) <| Ev.pos (by omega) <| Ev.const (show concordanceref02_Key.f (toS T[j]).f0 (toS T[j]).f1 = some (keyS T[j]) from rkey T[j] (hcl _ (List.getElem_mem hjl)).1) <| Ev.bind (put_ev _ _ (by omega)) ?_
    rw [← keysD_take acc T j hjl]
    exact ih (j + 1) (by omega)
theorem keysL0 (L : List Ent) (hn : L.length ≤ 1000) (hf : ∀ e ∈ L, Fit9 e) (d : Nat) : ∀ i : Nat, i + d = L.length → Ev (fun k => concordanceref09_Keys.l0 k L (keys9 (L.take i)) (i : Int)) (keys9 L) := by
  induction d with
  | zero =>
    intro i hi
    exact Ev.step (fun k => by rw [concordanceref09_Keys.l0]) (Ev.neg (by omega) (Ev.ret (by rw [show i = L.length by omega, List.take_length])))
  | succ d ih =>
    intro i hi
    have hil : i < L.length := by omega
    have hfi := hf _ (List.getElem_mem hil)
    have hlen := keys9_len hf i (by omega)
    refine Ev.step (fun k => by rw [concordanceref09_Keys.l0, rdE_nat L i hil]) ?_
    refine Ev.pos (by omega) <| Ev.pos (by omega) <| Ev.bind (terms_ev L[i].f0.f0 L[i].f0.f1 hfi.short.docOk (names_ok hfi.nice.1) hfi.nice) ?_
    exact keysL1 L hn i hil hfi (keys9 (L.take i)) (by omega) (keys9 L) (by rw [← keys9_take L i hil]; exact ih (i + 1) (by omega)) (termsOf (occ L[i].f0.f1)).length 0 (by omega)
theorem keys9_ev (L : List Ent) (hn : L.length ≤ 1000) (hf : ∀ e ∈ L, Fit9 e) : Ev (fun k => concordanceref09_Keys.f k L) (keys9 L) := by
  unfold concordanceref09_Keys.f
  exact keysL0 L hn hf L.length 0 (by omega)
/-! ### Postings -/
theorem posts_take (L : List Ent) (i : Nat) (h : i < L.length) (s : ByteArray) : posts (L.take (i + 1)) s = posts (L.take i) s ++ docPosts i L[i].f0.f1 (termsOf (occ L[i].f0.f1)) s := by
  rw [List.take_succ_eq_append_getElem h, posts_snoc, List.length_take, Nat.min_eq_left (by omega)]
theorem postsL1 (L : List Ent) (s : ByteArray) (hn : L.length ≤ 1000) (i : Nat) (hi : i < L.length) (hf : Fit9 L[i]) (acc : List Pst) (ha : acc.length ≤ 1000000) (r : List Pst)
    (hk : Ev (fun k => concordanceref09_Postings.l0 k L s (acc ++ docPosts i L[i].f0.f1 (termsOf (occ L[i].f0.f1)) s) ((i + 1 : Nat) : Int)) r) (d : Nat) :
    ∀ j : Nat, j + d = (termsOf (occ L[i].f0.f1)).length → Ev (fun k => concordanceref09_Postings.l1 k L s (acc ++ docPosts i L[i].f0.f1 ((termsOf (occ L[i].f0.f1)).take j) s) (i : Int) ((termsOf (occ L[i].f0.f1)).map toS) (j : Int)) r := by
  have hcl := (fit_clean hf).1
  have htl := termsOf_len' (occ L[i].f0.f1)
  have hoc := hf.okE.2.2
  obtain ⟨T, hT⟩ : ∃ T, T = termsOf (occ L[i].f0.f1) := ⟨_, rfl⟩
  rw [← hT] at hk hcl htl ⊢
  induction d with
  | zero =>
    intro j hj
    refine Ev.step (fun k => by rw [concordanceref09_Postings.l1, wrap_nat i (by omega)]) (Ev.neg (by rw [List.length_map]; omega) ?_)
    rw [show T.take j = T by rw [show j = T.length by omega, List.take_length]]
    exact hk
  | succ d ih =>
    intro j hj
    have hjl : j < T.length := by omega
    have hpl := docPosts_len i L[i].f0.f1 (T.take j) s
    have htk : (T.take j).length ≤ T.length := by rw [List.length_take]; omega
    have hpe : Ev (fun k => concordanceref08_Places.f k L[i].f0.f0 L[i].f0.f1 (toS T[j]).f0 (toS T[j]).f1) (placesIn (occ L[i].f0.f1) T[j]) := by
      rw [places_own hf.nice.2]
      exact places_ev L[i].f0.f0 L[i].f0.f1 T[j].1 T[j].2 hf.short.docOk
    have hih := ih (j + 1) (by omega)
    rw [docPosts_take i L[i].f0.f1 T j hjl s, ← List.append_assoc] at hih
    refine Ev.step (fun k => by rw [concordanceref09_Postings.l1, toS_rd T j hjl, wrap_nat j (by omega)]) ?_
    refine Ev.pos (by rw [List.length_map]; omega) <| Ev.pos (by omega) <| Ev.const (show concordanceref02_Key.f (toS T[j]).f0 (toS T[j]).f1 = some (keyS T[j]) from rkey T[j] (hcl _ (List.getElem_mem hjl)).1) ?_
    by_cases he : s = keyS T[j]
    · rw [if_pos he] at hih
      rw [rdE_nat L i hi]
      refine Ev.pos (by rw [he]) <| Ev.pos (by omega) <| Ev.pos (by omega) <| Ev.bind hpe <| Ev.pos (by rw [List.length_append]; omega) hih
    · rw [if_neg he, List.append_nil] at hih
      exact Ev.neg (fun h => he (bytes_ne.1 h).symm) hih
theorem postsL0 (L : List Ent) (s : ByteArray) (hn : L.length ≤ 1000) (hf : ∀ e ∈ L, Fit9 e) (d : Nat) : ∀ i : Nat, i + d = L.length → Ev (fun k => concordanceref09_Postings.l0 k L s (posts (L.take i) s) (i : Int)) (posts L s) := by
  induction d with
  | zero =>
    intro i hi
    exact Ev.step (fun k => by rw [concordanceref09_Postings.l0]) (Ev.neg (by omega) (Ev.ret (by rw [show i = L.length by omega, List.take_length])))
  | succ d ih =>
    intro i hi
    have hil : i < L.length := by omega
    have hfi := hf _ (List.getElem_mem hil)
    have hlen := posts_len (L := L.take i) (fun e he => (hf e (List.mem_of_mem_take he)).okE) s
    have htl : (L.take i).length ≤ 1000 := by rw [List.length_take]; omega
    refine Ev.step (fun k => by rw [concordanceref09_Postings.l0, rdE_nat L i hil]) ?_
    refine Ev.pos (by omega) <| Ev.pos (by omega) <| Ev.bind (terms_ev L[i].f0.f0 L[i].f0.f1 hfi.short.docOk (names_ok hfi.nice.1) hfi.nice) ?_
    have h1 := postsL1 L s hn i hil hfi (posts (L.take i) s) (by omega) (posts L s) (by rw [← posts_take L i hil s]; exact ih (i + 1) (by omega)) (termsOf (occ L[i].f0.f1)).length 0 (by omega)
    simpa [docPosts] using h1
theorem posts9_ev (L : List Ent) (s : ByteArray) (hn : L.length ≤ 1000) (hf : ∀ e ∈ L, Fit9 e) : Ev (fun k => concordanceref09_Postings.f k L s) (posts L s) := by
  unfold concordanceref09_Postings.f
  exact postsL0 L s hn hf L.length 0 (by omega)
theorem same5_loop (P : List Pst) (hn : P.length ≤ 1000000000) (hp : ∀ p ∈ P, p.f1.length ≤ 1000000000) (d : Nat) : ∀ i : Nat, i + d = P.length → Ev (fun k => concordanceref05_Same.l0 k P P (i : Int)) true := by
  induction d with
  | zero =>
    intro i hi
    exact Ev.step (fun k => by rw [concordanceref05_Same.l0]) (Ev.neg (by omega) (Ev.ret rfl))
  | succ d ih =>
    intro i hi
    have hil : i < P.length := by omega
    refine Ev.step (fun k => by rw [concordanceref05_Same.l0, rdP_nat P i hil, wrap_nat i (by omega)]) ?_
    have h2 := hp _ (List.getElem_mem hil)
    exact Ev.pos (by omega) <| Ev.pos (by omega) <| Ev.pos (by omega) <| Ev.bind (same1_ev _ (by omega)) <| Ev.pos rfl <| Ev.pos rfl (ih (i + 1) (by omega))
theorem same5_ev (P : List Pst) (hn : P.length ≤ 1000000000) (hp : ∀ p ∈ P, p.f1.length ≤ 1000000000) : Ev (fun k => concordanceref05_Same.f k P P) true := by
  unfold concordanceref05_Same.f
  exact Ev.pos rfl (same5_loop P hn hp P.length 0 (by omega))
end Go.Proofs.YteidebllianiiaaGreatDoor
