/- Dictionaries: plain facts about names that rise. No condition. -/
import Derived.Test.YtlghcfhmfbdidaaMade
import Derived.Test.YtlghcfhmfbdidaaPrefix
import Derived.Test.YtlghcfhmfbdidaaWNEv
namespace Go.Proofs.Ytlghcfhmfbdidaa
open Go.RowKit Go.Proofs.Ytlghcfhmfbdidaa.PAll Go.Proofs.YtlghcfhmfbdidaaW.PrintWords Go.Proofs.YtlghcfhmfbdidaaW.PrintLast

theorem Ev.pos {α : Type} {c : Prop} [Decidable c] {g f : Nat → Option α} {r : α} (h : c) (k : Ev g r) : Ev (fun n => if c then g n else f n) r := by simpa only [if_pos h] using k
theorem Ev.neg {α : Type} {c : Prop} [Decidable c] {g f : Nat → Option α} {r : α} (h : ¬ c) (k : Ev f r) : Ev (fun n => if c then g n else f n) r := by simpa only [if_neg h] using k
theorem Ev.ret {α : Type} {a r : α} (h : a = r) : Ev (fun _ => some a) r := h ▸ Ev.now a
theorem Ev.som {α β : Type} {a : α} {f : Nat → α → Option β} {r : β} (k : Ev (fun n => f n a) r) : Ev (fun n => (some a).bind (f n)) r := k
theorem Ev.const {α β : Type} {o : Option α} {a : α} {f : Nat → α → Option β} {r : β} (h : o = some a) (k : Ev (fun n => f n a) r) : Ev (fun n => o.bind (f n)) r := by subst h; exact k
theorem wrap_small (n : Int) (h : -9223372036854775808 ≤ n ∧ n ≤ 9223372036854775807) : wrap64 n = n := by unfold wrap64; omega

/-! ## texts in order -/
theorem less_irr (x : List UInt8) : Op.bytesLess x x = false := by
  have h := less_total x x
  simp at h
  exact h
theorem less_tr : ∀ {x y z : List UInt8}, Op.bytesLess x y = true → Op.bytesLess y z = true → Op.bytesLess x z = true
  | _, _, [], _, h2 => by simp [Op.bytesLess] at h2
  | [], _, _ :: _, _, _ => by simp [Op.bytesLess]
  | _ :: _, [], _, h1, _ => by simp [Op.bytesLess] at h1
  | a :: x, b :: y, c :: z, h1, h2 => by
    simp only [Op.bytesLess, Bool.or_eq_true, Bool.and_eq_true, decide_eq_true_eq, beq_iff_eq] at h1 h2 ⊢
    rcases h1 with h1 | ⟨rfl, h1⟩
    · rcases h2 with h2 | ⟨rfl, h2⟩
      · exact .inl (UInt8.lt_trans h1 h2)
      · exact .inl h1
    · rcases h2 with h2 | ⟨rfl, h2⟩
      · exact .inl h2
      · exact .inr ⟨rfl, less_tr h1 h2⟩
theorem less_as {x y : List UInt8} (h : Op.bytesLess x y = true) : Op.bytesLess y x = false := by
  cases h2 : Op.bytesLess y x
  · rfl
  · have := less_tr h h2; rw [less_irr] at this; cases this
theorem eq_of_less {x y : List UInt8} (h : Op.bytesLess x y = false) (h2 : Op.bytesLess y x = false) : x = y := by
  have := less_total x y
  rw [h, h2] at this
  simpa using this
/-- What begins so is not less. -/
theorem pre_not_less : ∀ {x b : List UInt8}, Lib.hasPrefix x b = true → Op.bytesLess x b = false
  | _, [], _ => by simp [Op.bytesLess]
  | [], _ :: _, h => by simp [Lib.hasPrefix] at h
  | a :: x, c :: b, h => by
    simp only [Lib.hasPrefix, List.isPrefixOf, Bool.and_eq_true, beq_iff_eq] at h
    obtain ⟨rfl, h⟩ := h
    have := pre_not_less (x := x) (b := b) h
    simp only [Op.bytesLess, this, Bool.and_false, Bool.or_false, decide_eq_false_iff_not]
    exact UInt8.lt_irrefl _
/-- What stands between a text and one that begins so begins so. -/
theorem pre_between : ∀ {b x y : List UInt8}, Op.bytesLess x b = false → Op.bytesLess x y = true → Lib.hasPrefix y b = true → Lib.hasPrefix x b = true
  | [], _, _, _, _, _ => by simp [Lib.hasPrefix]
  | _ :: _, [], _, h, _, _ => by simp [Op.bytesLess] at h
  | _ :: _, _ :: _, [], _, _, h => by simp [Lib.hasPrefix] at h
  | c :: b, d :: x, e :: y, h1, h2, h3 => by
    simp only [Lib.hasPrefix, List.isPrefixOf, Bool.and_eq_true, beq_iff_eq] at h3 ⊢
    obtain ⟨rfl, h3⟩ := h3
    simp only [Op.bytesLess, Bool.or_eq_true, Bool.and_eq_true, decide_eq_true_eq, beq_iff_eq, Bool.or_eq_false_iff, decide_eq_false_iff_not, Bool.and_eq_false_iff, beq_eq_false_iff_ne] at h1 h2
    rcases h2 with h2 | ⟨rfl, h2⟩
    · exact absurd h2 h1.1
    · refine ⟨rfl, pre_between (y := y) ?_ h2 h3⟩
      rcases h1.2 with h | h
      · exact absurd rfl h
      · exact h

/-! ## names that rise -/
def lt (a b : ByteArray) : Bool := Op.bytesLess a.toList b.toList
def Up (l : List ByteArray) : Prop := ∀ i j, i < j → j < l.length → lt (nth l i) (nth l j) = true
theorem nth_eq (l : List ByteArray) (i : Nat) (h : i < l.length) : nth l i = l[i] := by unfold nth rdOf; simp; rw [List.getElem?_eq_getElem h]; rfl
theorem nth_append (l m : List ByteArray) (i : Nat) : nth (l ++ m) i = if i < l.length then nth l i else nth m (i - l.length) := by
  unfold nth rdOf
  simp only [Int.toNat_natCast, List.getD_eq_getElem?_getD]
  split
  · rw [List.getElem?_append_left (by assumption)]
  · rw [List.getElem?_append_right (by omega)]
theorem nth_take (l : List ByteArray) (i m : Nat) (h : i < m) : nth (l.take m) i = nth l i := by
  unfold nth rdOf
  simp only [Int.toNat_natCast, List.getD_eq_getElem?_getD, List.getElem?_take, h, if_true]
theorem nth_drop (l : List ByteArray) (i m : Nat) : nth (l.drop m) i = nth l (m + i) := by
  unfold nth rdOf
  simp only [Int.toNat_natCast, List.getD_eq_getElem?_getD, List.getElem?_drop]

/-- Where a name belongs: gone through from the first one on. -/
def pl (l : List ByteArray) (name : ByteArray) : Nat → Nat → Nat
  | 0, i => i
  | d + 1, i => if lt (nth l i) name then pl l name d (i + 1) else i
theorem pl_spec (l : List ByteArray) (name : ByteArray) : ∀ d i, i ≤ pl l name d i ∧ pl l name d i ≤ i + d ∧ (∀ j, i ≤ j → j < pl l name d i → lt (nth l j) name = true) ∧ (pl l name d i < i + d → lt (nth l (pl l name d i)) name = false)
  | 0, i => ⟨Nat.le_refl _, Nat.le_refl _, fun j h1 h2 => absurd h2 (by unfold pl; omega), fun h => absurd h (by unfold pl; omega)⟩
  | d + 1, i => by
    unfold pl
    cases h : lt (nth l i) name
    · rw [if_neg (by simp)]
      exact ⟨Nat.le_refl _, by omega, fun j h1 h2 => absurd h2 (by omega), fun _ => h⟩
    · rw [if_pos rfl]
      obtain ⟨h1, h2, h3, h4⟩ := pl_spec l name d (i + 1)
      refine ⟨by omega, by omega, fun j a b => ?_, fun a => h4 (by omega)⟩
      by_cases e : j = i
      · subst e; exact h
      · exact h3 j (by omega) b
def plN (l : List ByteArray) (name : ByteArray) : Nat := pl l name l.length 0
/-- What is said of the place. -/
theorem plN_spec (l : List ByteArray) (name : ByteArray) : plN l name ≤ l.length ∧ (∀ j, j < plN l name → lt (nth l j) name = true) ∧ (plN l name < l.length → lt (nth l (plN l name)) name = false) := by
  obtain ⟨_, h2, h3, h4⟩ := pl_spec l name l.length 0
  exact ⟨by unfold plN; omega, fun j h => h3 j (by omega) h, fun h => h4 (by unfold plN at h; omega)⟩
theorem Up.lt_tr {l : List ByteArray} (h : Up l) {i j : Nat} {name : ByteArray} (hij : i ≤ j) (hj : j < l.length) (hl : lt (nth l j) name = true) : lt (nth l i) name = true := by
  rcases Nat.eq_or_lt_of_le hij with e | e
  · subst e; exact hl
  · exact less_tr (h i j e hj) hl
theorem placeN_eq {l : List ByteArray} (h : Up l) (name : ByteArray) : placeN l name = plN l name := by
  obtain ⟨h1, h2, h3⟩ := plN_spec l name
  refine leastM_at _ _ _ _ _ (by omega) (Nat.zero_le _) h1 ?_
  intro i _ hi
  unfold geB
  by_cases hp : plN l name ≤ i
  · rw [decide_eq_true hp]
    have : lt (nth l i) name = false := by
      cases hc : lt (nth l i) name
      · rfl
      · have := h.lt_tr hp hi hc
        rw [h3 (by omega)] at this; cases this
    unfold lt at this
    rw [this]; rfl
  · rw [decide_eq_false hp]
    have := h2 i (by omega)
    unfold lt at this
    rw [this]; rfl

theorem rplace_loop (l : List ByteArray) (name : ByteArray) (hl : l.length ≤ 1000000) : ∀ d i : Nat, i + d = l.length →
    Ev (fun k => concordanceref07_Place.l0 k l name (i : Int)) ((pl l name d i : Int), decide (pl l name d i < l.length) && ((nth l (pl l name d i)).toList == name.toList))
  | 0, i, hi => by
    refine Ev.step (fun k => by rw [concordanceref07_Place.l0]) (Ev.neg (by omega) (Ev.ret ?_))
    unfold pl
    rw [show l.length = i by omega]
    simp
  | d + 1, i, hi => by
    have ih := rplace_loop l name hl d (i + 1) (by omega)
    refine Ev.step (fun k => by rw [concordanceref07_Place.l0, wrap_small (i + 1) (by omega)]) ?_
    refine Ev.pos (by omega) (Ev.pos (by omega) ?_)
    unfold pl
    cases h : lt (nth l i) name
    · refine Ev.neg (by unfold lt nth at h; rw [h]; simp) (Ev.ret ?_)
      rw [if_neg (by simp), decide_eq_true (by omega), Bool.true_and]
      rfl
    · refine Ev.pos h ?_
      rw [if_pos rfl]
      exact_mod_cast ih
theorem rplace_ev (l : List ByteArray) (name : ByteArray) (hl : l.length ≤ 1000000) : Ev (fun k => concordanceref07_Place.f k l name) ((plN l name : Int), decide (plN l name < l.length) && ((nth l (plN l name)).toList == name.toList)) :=
  rplace_loop l name hl l.length 0 (by omega)

/-- Names with one more. -/
def putM (l : List ByteArray) (name : ByteArray) : List ByteArray :=
  if (decide (plN l name < l.length) && ((nth l (plN l name)).toList == name.toList)) = true then l else l.take (plN l name) ++ [name] ++ l.drop (plN l name)
theorem putM_len (l : List ByteArray) (name : ByteArray) : (putM l name).length ≤ l.length + 1 ∧ l.length ≤ (putM l name).length := by
  unfold putM
  have := (plN_spec l name).1
  split <;> simp <;> omega
theorem put_ev (l : List ByteArray) (name : ByteArray) (hl : l.length ≤ 100000) : Ev (fun k => concordanceref07_Put.f k l name) (putM l name) := by
  have hp := (plN_spec l name).1
  have he := rplace_ev l name (by omega)
  unfold concordanceref07_Put.f
  cases hB : (decide (plN l name < l.length) && ((nth l (plN l name)).toList == name.toList))
  · have hM : putM l name = l.take (plN l name) ++ [name] ++ l.drop (plN l name) := by unfold putM; rw [hB, if_neg (by simp)]
    rw [hB] at he
    rw [hM]
    refine Ev.bind he ?_
    dsimp only
    refine Ev.neg (by simp) (Ev.pos (by omega) (Ev.pos (by omega) ?_))
    refine Ev.som ?_
    refine Ev.pos (by simp; omega) ?_
    refine Ev.som ?_
    refine Ev.pos (by simp; omega) ?_
    refine Ev.som ?_
    refine Ev.som ?_
    refine Ev.pos (by simp; omega) ?_
    exact Ev.ret (by simp)
  · have hM : putM l name = l := by unfold putM; rw [hB, if_pos rfl]
    rw [hB] at he
    rw [hM]
    refine Ev.bind he ?_
    dsimp only
    exact Ev.pos rfl (Ev.ret rfl)
theorem Up.put {l : List ByteArray} (h : Up l) (name : ByteArray) : Up (putM l name) := by
  unfold putM
  obtain ⟨h1, h2, h3⟩ := plN_spec l name
  split
  · exact h
  · rename_i hne
    generalize plN l name = p at *
    have hgt : p < l.length → lt name (nth l p) = true := by
      intro hp
      cases hc : lt name (nth l p)
      · exfalso
        apply hne
        rw [decide_eq_true hp, Bool.true_and, beq_iff_eq]
        exact eq_of_less (h3 hp) hc
      · rfl
    have e : ∀ i, i < l.length + 1 → nth (l.take p ++ [name] ++ l.drop p) i = if i < p then nth l i else if i = p then name else nth l (i - 1) := by
      intro i hi
      have htl : (l.take p).length = p := by rw [List.length_take]; omega
      rw [nth_append, nth_append, nth_drop]
      simp only [List.length_append, htl, List.length_cons, List.length_nil]
      by_cases a : i < p
      · rw [if_pos (by omega), if_pos a, if_pos a, nth_take _ _ _ a]
      · by_cases b : i = p
        · subst b
          rw [if_pos (by omega), if_neg a, if_neg a, if_pos rfl, Nat.sub_self]
          rfl
        · rw [if_neg (by omega), if_neg a, if_neg b]
          congr 1
          omega
    intro i j hij hj
    have hlen : (l.take p ++ [name] ++ l.drop p).length = l.length + 1 := by simp; omega
    rw [hlen] at hj
    rw [e i (by omega), e j (by omega)]
    by_cases a : i < p
    · rw [if_pos a]
      by_cases b : j < p
      · rw [if_pos b]; exact h i j hij (by omega)
      · rw [if_neg b]
        by_cases c : j = p
        · rw [if_pos c]; exact h2 i a
        · rw [if_neg c]; exact h i (j - 1) (by omega) (by omega)
    · rw [if_neg a, if_neg (show ¬ j < p by omega), if_neg (show ¬ j = p by omega)]
      by_cases b : i = p
      · rw [if_pos b]
        subst b
        by_cases c : j = i + 1
        · subst c; exact hgt (by omega)
        · exact less_tr (hgt (by omega)) (h i (j - 1) (by omega) (by omega))
      · rw [if_neg b]
        exact h (i - 1) (j - 1) (by omega) (by omega)

/-- Names that rise, made of any. -/
def goodM (l : List ByteArray) (most : Nat) : Nat → List ByteArray
  | 0 => []
  | i + 1 => if i < most then putM (goodM l most i) ((nth l i).extract 0 (min (nth l i).size 8)) else goodM l most i
theorem goodM_up (l : List ByteArray) (most : Nat) : ∀ i, Up (goodM l most i)
  | 0 => fun i j _ h => absurd h (by unfold goodM; simp)
  | i + 1 => by
    unfold goodM
    split
    · exact (goodM_up l most i).put _
    · exact goodM_up l most i
theorem goodM_len (l : List ByteArray) (most : Nat) : ∀ i, (goodM l most i).length ≤ min i most
  | 0 => by unfold goodM; simp
  | i + 1 => by
    have := goodM_len l most i
    unfold goodM
    split
    · have := (putM_len (goodM l most i) ((nth l i).extract 0 (min (nth l i).size 8))).1; omega
    · omega
theorem good_loop (l : List ByteArray) (most : Nat) (hm : most ≤ 1000) : ∀ d i : Nat, i + d = min l.length most →
    Ev (fun k => concordanceref07_Good.l0 k l (most : Int) (goodM l most i) (i : Int)) (goodM l most (min l.length most))
  | 0, i, hi => by
    have e : i = min l.length most := by omega
    subst e
    refine Ev.step (fun k => by rw [concordanceref07_Good.l0]) ?_
    by_cases h : ((min l.length most : Nat) : Int) < (l.length : Int)
    · exact Ev.pos h (Ev.neg (by omega) (Ev.ret rfl))
    · exact Ev.neg h (Ev.ret rfl)
  | d + 1, i, hi => by
    have ih := good_loop l most hm d (i + 1) (by omega)
    have hlen := goodM_len l most i
    have hg : goodM l most (i + 1) = putM (goodM l most i) ((nth l i).extract 0 (min (nth l i).size 8)) := by
      rw [goodM, if_pos (by omega)]
    have hmn : mn ((nth l i).size : Int) 8 = ((min (nth l i).size 8 : Nat) : Int) := by unfold mn; omega
    refine Ev.step (fun k => by rw [concordanceref07_Good.l0, wrap_small (i + 1) (by omega)]) ?_
    refine Ev.pos (by omega) (Ev.pos (by omega) (Ev.pos (by omega) ?_))
    show Ev (fun k => if 0 ≤ mn ((nth l i).size : Int) 8 then (if mn ((nth l i).size : Int) 8 ≤ ((nth l i).size : Int) then ((concordanceref07_Put.f k (goodM l most i) ((nth l i).extract 0 (mn ((nth l i).size : Int) 8).toNat)).bind fun t124 => (concordanceref07_Good.l0 k l (most : Int) t124 ((i : Int) + 1))) else none) else none) _
    rw [hmn]
    refine Ev.pos (by omega) (Ev.pos (by omega) ?_)
    rw [Int.toNat_natCast]
    refine Ev.bind (put_ev _ _ (by omega)) ?_
    rw [← hg]
    exact_mod_cast ih
def goodL (l : List ByteArray) : List ByteArray := goodM l 20 (min l.length 20)
theorem good_ev (l : List ByteArray) : Ev (fun k => concordanceref07_Good.f k l 20) (goodL l) := good_loop l 20 (by decide) (min l.length 20) 0 (by omega)
theorem goodL_up (l : List ByteArray) : Up (goodL l) := goodM_up _ _ _
theorem goodL_len (l : List ByteArray) : (goodL l).length ≤ 20 := by have := goodM_len l 20 (min l.length 20); unfold goodL; omega

/-! ## rising, as the program tells it -/
theorem rises_loop (l : List ByteArray) (hu : Up l) (hl : l.length ≤ 1000000) : ∀ d i : Nat, i + d = l.length →
    Ev (fun k => dict_rises.l0 k l l (l.length : Int) (i : Int)) true
  | 0, i, hi => by
    refine Ev.step (fun k => by rw [dict_rises.l0]) (Ev.neg (by omega) (Ev.ret rfl))
  | d + 1, i, hi => by
    have ih := rises_loop l hu hl d (i + 1) (by omega)
    refine Ev.step (fun k => by rw [dict_rises.l0, wrap_small (i + 1) (by omega)]) ?_
    refine Ev.pos (by omega) (Ev.pos (by omega) (Ev.pos (by omega) ?_))
    by_cases h : (i : Int) > 0
    · refine Ev.pos h ?_
      rw [wrap_small ((i : Int) - 1) (by omega)]
      refine Ev.pos (by omega) (Ev.pos (by omega) (Ev.pos ?_ ?_))
      · have := hu (i - 1) i (by omega) (by omega)
        unfold lt nth at this
        rwa [show ((i - 1 : Nat) : Int) = (i : Int) - 1 by omega] at this
      · exact_mod_cast ih
    · exact Ev.neg h (by exact_mod_cast ih)
theorem rises_ev (l : List ByteArray) (hu : Up l) (hl : l.length ≤ 1000000) : Ev (fun k => dict_rises.f k l) true := rises_loop l hu hl l.length 0 (by omega)

/-! ## names that begin so -/
def pfx (x b : ByteArray) : Bool := Lib.hasPrefix x.data.toList b.data.toList
theorem pfx_not_lt {x b : ByteArray} (h : pfx x b = true) : lt x b = false := by
  unfold lt
  rw [Lib.toList_data, Lib.toList_data]
  exact pre_not_less h
theorem Up.pfx_down {l : List ByteArray} (h : Up l) {b : ByteArray} {i j : Nat} (hi : lt (nth l i) b = false) (hij : i ≤ j) (hj : j < l.length) (hp : pfx (nth l j) b = true) : pfx (nth l i) b = true := by
  rcases Nat.eq_or_lt_of_le hij with e | e
  · subst e; exact hp
  · have h1 := h i j e hj
    unfold lt at hi h1
    rw [Lib.toList_data, Lib.toList_data] at hi h1
    exact pre_between hi h1 hp
/-- How many stand side by side from i on, and begin so. -/
def run (l : List ByteArray) (b : ByteArray) : Nat → Nat → Nat
  | 0, i => i
  | d + 1, i => if pfx (nth l i) b then run l b d (i + 1) else i
theorem run_spec (l : List ByteArray) (b : ByteArray) : ∀ d i, i ≤ run l b d i ∧ run l b d i ≤ i + d ∧ (∀ j, i ≤ j → j < run l b d i → pfx (nth l j) b = true) ∧ (run l b d i < i + d → pfx (nth l (run l b d i)) b = false)
  | 0, i => ⟨Nat.le_refl _, Nat.le_refl _, fun j h1 h2 => absurd h2 (by unfold run; omega), fun h => absurd h (by unfold run; omega)⟩
  | d + 1, i => by
    unfold run
    cases h : pfx (nth l i) b
    · rw [if_neg (by simp)]
      exact ⟨Nat.le_refl _, by omega, fun j h1 h2 => absurd h2 (by omega), fun _ => h⟩
    · rw [if_pos rfl]
      obtain ⟨h1, h2, h3, h4⟩ := run_spec l b d (i + 1)
      refine ⟨by omega, by omega, fun j a c => ?_, fun a => h4 (by omega)⟩
      by_cases e : j = i
      · subst e; exact h
      · exact h3 j (by omega) c
theorem prefixN_eq {l : List ByteArray} (h : Up l) (b : ByteArray) : prefixN l b = run l b (l.length - plN l b) (plN l b) := by
  unfold prefixN
  rw [placeN_eq h]
  obtain ⟨h1, h2, h3⟩ := plN_spec l b
  obtain ⟨r1, r2, r3, r4⟩ := run_spec l b (l.length - plN l b) (plN l b)
  generalize run l b (l.length - plN l b) (plN l b) = R at *
  generalize plN l b = p at *
  rw [leastM_at (preB l b p) (R - p) _ _ _ (by omega) (Nat.zero_le _) (by omega) ?_]
  · omega
  intro i _ hi
  unfold preB
  by_cases hc : R - p ≤ i
  · rw [decide_eq_true hc]
    have : pfx (nth l (p + i)) b = false := by
      cases hx : pfx (nth l (p + i)) b
      · rfl
      · have hb : lt (nth l R) b = false := by
          cases hy : lt (nth l R) b
          · rfl
          · have := h.lt_tr (i := p) (j := R) r1 (by omega) hy
            rw [h3 (by omega)] at this; cases this
        have := h.pfx_down hb (show R ≤ p + i by omega) (by omega) hx
        rw [r4 (by omega)] at this; cases this
    unfold pfx at this
    rw [this]; rfl
  · rw [decide_eq_false hc]
    have := r3 (p + i) (by omega) (by omega)
    unfold pfx at this
    rw [this]; rfl
theorem prefixN_bound {l : List ByteArray} (h : Up l) (b : ByteArray) : placeN l b ≤ prefixN l b ∧ prefixN l b ≤ l.length := by
  rw [prefixN_eq h, placeN_eq h]
  have h1 := (plN_spec l b).1
  obtain ⟨r1, r2, _⟩ := run_spec l b (l.length - plN l b) (plN l b)
  omega
/-- Just the names from the place on, up to the end, begin so. -/
theorem prefix_iff {l : List ByteArray} (h : Up l) (b : ByteArray) (i : Nat) (hi : i < l.length) : pfx (nth l i) b = (decide (placeN l b ≤ i) && decide (i < prefixN l b)) := by
  rw [prefixN_eq h, placeN_eq h]
  obtain ⟨h1, h2, h3⟩ := plN_spec l b
  obtain ⟨r1, r2, r3, r4⟩ := run_spec l b (l.length - plN l b) (plN l b)
  generalize run l b (l.length - plN l b) (plN l b) = R at *
  generalize plN l b = p at *
  by_cases a : p ≤ i
  · rw [decide_eq_true a, Bool.true_and]
    by_cases c : i < R
    · rw [decide_eq_true c]; exact r3 i a c
    · rw [decide_eq_false c]
      cases hx : pfx (nth l i) b
      · rfl
      · have hb : lt (nth l R) b = false := by
          cases hy : lt (nth l R) b
          · rfl
          · have := h.lt_tr (i := p) (j := R) r1 (by omega) hy
            rw [h3 (by omega)] at this; cases this
        have := h.pfx_down hb (show R ≤ i by omega) hi hx
        rw [r4 (by omega)] at this; cases this
  · rw [decide_eq_false a, Bool.false_and]
    cases hx : pfx (nth l i) b
    · rfl
    · have := pfx_not_lt hx
      rw [h2 i (by omega)] at this; cases this
end Go.Proofs.Ytlghcfhmfbdidaa
