/- math/bits.OnesCount64: how many bits of a number are 1. No condition. -/
import Derived.Test.YtfoheajcahiceaaDoorBits0
import Derived.Test.YtfoheajcahiceaaDoorPAllx1
namespace Go.Proofs.YtfoheajcahiceaaDoor
set_option linter.unusedVariables false
open Go.RowKit Go.Proofs.YtfoheajcahiceaaDoor.PAll Go.Proofs.YtfoheajcahiceaaDoorW.PrintWords Go.Proofs.YtfoheajcahiceaaDoorW.PrintLast Go.Proofs.YtfoheajcahiceaaDoorW.PrintMore

def o1 (x : Int) : Int := IntKind.u64.wrap (Go.bits .and .u64 (x / 2) 6148914691236517205 + Go.bits .and .u64 x 6148914691236517205)
def o2 (x : Int) : Int := IntKind.u64.wrap (Go.bits .and .u64 (x / 4) 3689348814741910323 + Go.bits .and .u64 x 3689348814741910323)
def o3 (x : Int) : Int := Go.bits .and .u64 (IntKind.u64.wrap (x / 16 + x)) 1085102592571150095
def o4 (x : Int) : Int := IntKind.u64.wrap (x + x / 256)
def o5 (x : Int) : Int := IntKind.u64.wrap (x + x / 65536)
def o6 (x : Int) : Int := IntKind.u64.wrap (x + x / 4294967296)
theorem ones_form (x : Int) : bits_OnesCount64.f x = some (Go.bits .and .i64 (wrap64 (o6 (o5 (o4 (o3 (o2 (o1 x))))))) 127) := by
  unfold bits_OnesCount64.f o6 o5 o4 o3 o2 o1
  rfl

/-- Both, byte by byte. -/
theorem and_split (x y : Nat) : x &&& y = (x % 256 &&& y % 256) + 256 * (x / 256 &&& y / 256) := by
  have h1 : (x &&& y) % 2 ^ 8 = (x % 2 ^ 8 &&& y % 2 ^ 8) := Nat.and_mod_two_pow
  have h2 : (x &&& y) / 2 ^ 8 = (x / 2 ^ 8 &&& y / 2 ^ 8) := Nat.and_div_two_pow
  have h3 := Nat.mod_add_div (x &&& y) (2 ^ 8)
  rw [h1, h2] at h3
  exact h3.symm
def c1 (b : Nat) : Nat := (b / 2 &&& 85) + (b &&& 85)
def c2 (b : Nat) : Nat := (b / 4 &&& 51) + (b &&& 51)
def c3 (b : Nat) : Nat := (b / 16 + b) &&& 15
theorem d1 : ∀ b, b < 256 → ∀ t, t < 2 → (b / 2 + 128 * t) &&& 85 = b / 2 &&& 85 := by decide +kernel
theorem d2 : ∀ b, b < 256 → ∀ t, t < 4 → (b / 4 + 64 * t) &&& 51 = b / 4 &&& 51 := by decide +kernel
theorem d3 : ∀ b, b < 256 → (c1 b < 256 ∧ c2 (c1 b) ≤ 68 ∧ c2 (c1 b) % 16 ≤ 4 ∧ c3 (c2 (c1 b)) ≤ 8) := by decide +kernel
theorem d4 : ∀ b, b ≤ 68 → ∀ t, t ≤ 4 → (b / 16 + 16 * t + b) % 256 &&& 15 = c3 b := by decide +kernel
theorem d5 : ∀ b, b < 256 → c3 (c2 (c1 b)) = sumB b.testBit 8 := by decide +kernel
theorem step1 (b h m : Nat) (hb : b < 256) : ((b + 256 * h) / 2 &&& (85 + 256 * m)) + ((b + 256 * h) &&& (85 + 256 * m)) = c1 b + 256 * ((h / 2 &&& m) + (h &&& m)) := by
  rw [and_split ((b + 256 * h) / 2), and_split (b + 256 * h)]
  have e1 : (b + 256 * h) / 2 % 256 = b / 2 + 128 * (h % 2) := by omega
  have e2 : (b + 256 * h) / 2 / 256 = h / 2 := by omega
  have e3 : (b + 256 * h) % 256 = b := by omega
  have e4 : (b + 256 * h) / 256 = h := by omega
  have e5 : (85 + 256 * m) % 256 = 85 := by omega
  have e6 : (85 + 256 * m) / 256 = m := by omega
  rw [e1, e2, e3, e4, e5, e6, d1 b hb _ (by omega)]
  unfold c1; omega
theorem step2 (b h m : Nat) (hb : b < 256) : ((b + 256 * h) / 4 &&& (51 + 256 * m)) + ((b + 256 * h) &&& (51 + 256 * m)) = c2 b + 256 * ((h / 4 &&& m) + (h &&& m)) := by
  rw [and_split ((b + 256 * h) / 4), and_split (b + 256 * h)]
  have e1 : (b + 256 * h) / 4 % 256 = b / 4 + 64 * (h % 4) := by omega
  have e2 : (b + 256 * h) / 4 / 256 = h / 4 := by omega
  have e3 : (b + 256 * h) % 256 = b := by omega
  have e4 : (b + 256 * h) / 256 = h := by omega
  have e5 : (51 + 256 * m) % 256 = 51 := by omega
  have e6 : (51 + 256 * m) / 256 = m := by omega
  rw [e1, e2, e3, e4, e5, e6, d2 b hb _ (by omega)]
  unfold c2; omega
theorem step3 (b h m : Nat) (hb : b ≤ 68) (ht : h % 16 ≤ 4) : ((b + 256 * h) / 16 + (b + 256 * h)) &&& (15 + 256 * m) = c3 b + 256 * ((h / 16 + h) &&& m) := by
  rw [and_split ((b + 256 * h) / 16 + (b + 256 * h))]
  have e1 : ((b + 256 * h) / 16 + (b + 256 * h)) % 256 = (b / 16 + 16 * (h % 16) + b) % 256 := by omega
  have e2 : ((b + 256 * h) / 16 + (b + 256 * h)) / 256 = h / 16 + h := by omega
  have e5 : (15 + 256 * m) % 256 = 15 := by omega
  have e6 : (15 + 256 * m) / 256 = m := by omega
  rw [e1, e2, e5, e6, d4 b hb _ ht]
theorem step1_zero (m : Nat) : (0 / 2 &&& m) + (0 &&& m) = 0 := by simp
def lay8 (a b c d e f g h : Nat) : Nat := a + 256 * (b + 256 * (c + 256 * (d + 256 * (e + 256 * (f + 256 * (g + 256 * h))))))
theorem all1 (a b c d e f g h : Nat) (ha : a < 256) (hb : b < 256) (hc : c < 256) (hd : d < 256) (he : e < 256) (hf : f < 256) (hg : g < 256) (hh : h < 256) :
    (lay8 a b c d e f g h / 2 &&& 6148914691236517205) + (lay8 a b c d e f g h &&& 6148914691236517205) = lay8 (c1 a) (c1 b) (c1 c) (c1 d) (c1 e) (c1 f) (c1 g) (c1 h) := by
  rw [show (6148914691236517205 : Nat) = 85 + 256 * (85 + 256 * (85 + 256 * (85 + 256 * (85 + 256 * (85 + 256 * (85 + 256 * 85)))))) from rfl]
  unfold lay8
  rw [step1 _ _ _ ha, step1 _ _ _ hb, step1 _ _ _ hc, step1 _ _ _ hd, step1 _ _ _ he, step1 _ _ _ hf, step1 _ _ _ hg]
  rfl
theorem all2 (a b c d e f g h : Nat) (ha : a < 256) (hb : b < 256) (hc : c < 256) (hd : d < 256) (he : e < 256) (hf : f < 256) (hg : g < 256) (hh : h < 256) :
    (lay8 a b c d e f g h / 4 &&& 3689348814741910323) + (lay8 a b c d e f g h &&& 3689348814741910323) = lay8 (c2 a) (c2 b) (c2 c) (c2 d) (c2 e) (c2 f) (c2 g) (c2 h) := by
  rw [show (3689348814741910323 : Nat) = 51 + 256 * (51 + 256 * (51 + 256 * (51 + 256 * (51 + 256 * (51 + 256 * (51 + 256 * 51)))))) from rfl]
  unfold lay8
  rw [step2 _ _ _ ha, step2 _ _ _ hb, step2 _ _ _ hc, step2 _ _ _ hd, step2 _ _ _ he, step2 _ _ _ hf, step2 _ _ _ hg]
  rfl
theorem all3 (a b c d e f g h : Nat) (ha : a ≤ 68) (hb : b ≤ 68) (hc : c ≤ 68) (hd : d ≤ 68) (he : e ≤ 68) (hf : f ≤ 68) (hg : g ≤ 68) (hh : h ≤ 68)
    (tb : b % 16 ≤ 4) (tc : c % 16 ≤ 4) (td : d % 16 ≤ 4) (te : e % 16 ≤ 4) (tf : f % 16 ≤ 4) (tg : g % 16 ≤ 4) (th : h % 16 ≤ 4) :
    (lay8 a b c d e f g h / 16 + lay8 a b c d e f g h) &&& 1085102592571150095 = lay8 (c3 a) (c3 b) (c3 c) (c3 d) (c3 e) (c3 f) (c3 g) (c3 h) := by
  rw [show (1085102592571150095 : Nat) = 15 + 256 * (15 + 256 * (15 + 256 * (15 + 256 * (15 + 256 * (15 + 256 * (15 + 256 * 15)))))) from rfl]
  unfold lay8
  rw [step3 _ _ _ ha (by omega), step3 _ _ _ hb (by omega), step3 _ _ _ hc (by omega), step3 _ _ _ hd (by omega), step3 _ _ _ he (by omega), step3 _ _ _ hf (by omega), step3 _ _ _ hg (by omega)]
  rfl
theorem lay8_lt (a b c d e f g h : Nat) (ha : a < 256) (hb : b < 256) (hc : c < 256) (hd : d < 256) (he : e < 256) (hf : f < 256) (hg : g < 256) (hh : h < 256) : lay8 a b c d e f g h < 18446744073709551616 := by unfold lay8; omega
theorem lay8_of (x : Nat) (hx : x < 18446744073709551616) : ∃ a b c d e f g h, (a < 256 ∧ b < 256 ∧ c < 256 ∧ d < 256 ∧ e < 256 ∧ f < 256 ∧ g < 256 ∧ h < 256) ∧ x = lay8 a b c d e f g h :=
  ⟨x % 256, x / 256 % 256, x / 65536 % 256, x / 16777216 % 256, x / 4294967296 % 256, x / 1099511627776 % 256, x / 281474976710656 % 256, x / 72057594037927936, by omega, by unfold lay8; omega⟩
theorem tb_lo (b h j : Nat) (hb : b < 256) (hj : j < 8) : (b + 256 * h).testBit j = b.testBit j := by
  have : (2 ^ 8 * h + b).testBit j = b.testBit j := by rw [Nat.testBit_two_pow_mul_add _ (by exact hb)]; simp [hj]
  rw [show b + 256 * h = 2 ^ 8 * h + b by omega]; exact this
theorem tb_hi (b h j : Nat) (hb : b < 256) : (b + 256 * h).testBit (8 + j) = h.testBit j := by
  have : (2 ^ 8 * h + b).testBit (8 + j) = h.testBit j := by
    rw [Nat.testBit_two_pow_mul_add _ (by exact hb)]
    rw [if_neg (by omega)]; congr 1; omega
  rw [show b + 256 * h = 2 ^ 8 * h + b by omega]; exact this
theorem sum_byte (b h n : Nat) (hb : b < 256) : sumB (b + 256 * h).testBit (8 + n) = sumB b.testBit 8 + sumB h.testBit n := by
  rw [sumB_add, sumB_ext (fun j hj => tb_lo b h j hb hj), sumB_ext (fun j _ => tb_hi b h j hb)]
theorem lay8_sum (a b c d e f g h : Nat) (ha : a < 256) (hb : b < 256) (hc : c < 256) (hd : d < 256) (he : e < 256) (hf : f < 256) (hg : g < 256) :
    sumB (lay8 a b c d e f g h).testBit 64 = sumB a.testBit 8 + (sumB b.testBit 8 + (sumB c.testBit 8 + (sumB d.testBit 8 + (sumB e.testBit 8 + (sumB f.testBit 8 + (sumB g.testBit 8 + sumB h.testBit 8)))))) := by
  unfold lay8
  rw [show (64 : Nat) = 8 + (8 + (8 + (8 + (8 + (8 + (8 + 8)))))) from rfl, sum_byte _ _ _ ha, sum_byte _ _ _ hb, sum_byte _ _ _ hc, sum_byte _ _ _ hd, sum_byte _ _ _ he, sum_byte _ _ _ hf, sum_byte _ _ _ hg]
theorem wrap_nat (n : Nat) (h : n < 18446744073709551616) : IntKind.u64.wrap (n : Int) = (n : Int) := by rw [IntKind.wrap_u64]; omega
theorem o1_nat (a b c d e f g h : Nat) (ha : a < 256) (hb : b < 256) (hc : c < 256) (hd : d < 256) (he : e < 256) (hf : f < 256) (hg : g < 256) (hh : h < 256) :
    o1 (lay8 a b c d e f g h : Nat) = (lay8 (c1 a) (c1 b) (c1 c) (c1 d) (c1 e) (c1 f) (c1 g) (c1 h) : Nat) := by
  have hx := lay8_lt a b c d e f g h ha hb hc hd he hf hg hh
  have key := all1 a b c d e f g h ha hb hc hd he hf hg hh
  generalize lay8 a b c d e f g h = x at hx key
  unfold o1
  rw [show (6148914691236517205 : Int) = ((6148914691236517205 : Nat) : Int) from rfl, show ((x : Int) / 2) = ((x / 2 : Nat) : Int) by omega,
    bits_and_u64_nat _ _ (by omega) (by decide), bits_and_u64_nat _ _ hx (by decide), ← Int.natCast_add, key]
  exact wrap_nat _ (lay8_lt _ _ _ _ _ _ _ _ (d3 a ha).1 (d3 b hb).1 (d3 c hc).1 (d3 d hd).1 (d3 e he).1 (d3 f hf).1 (d3 g hg).1 (d3 h hh).1)
theorem o2_nat (a b c d e f g h : Nat) (ha : a < 256) (hb : b < 256) (hc : c < 256) (hd : d < 256) (he : e < 256) (hf : f < 256) (hg : g < 256) (hh : h < 256)
    (la : c2 a < 256) (lb : c2 b < 256) (lc : c2 c < 256) (ld : c2 d < 256) (le : c2 e < 256) (lf : c2 f < 256) (lg : c2 g < 256) (lh : c2 h < 256) :
    o2 (lay8 a b c d e f g h : Nat) = (lay8 (c2 a) (c2 b) (c2 c) (c2 d) (c2 e) (c2 f) (c2 g) (c2 h) : Nat) := by
  have hx := lay8_lt a b c d e f g h ha hb hc hd he hf hg hh
  have key := all2 a b c d e f g h ha hb hc hd he hf hg hh
  generalize lay8 a b c d e f g h = x at hx key
  unfold o2
  rw [show (3689348814741910323 : Int) = ((3689348814741910323 : Nat) : Int) from rfl, show ((x : Int) / 4) = ((x / 4 : Nat) : Int) by omega,
    bits_and_u64_nat _ _ (by omega) (by decide), bits_and_u64_nat _ _ hx (by decide), ← Int.natCast_add, key]
  exact wrap_nat _ (lay8_lt _ _ _ _ _ _ _ _ la lb lc ld le lf lg lh)
theorem lay8_small (a b c d e f g h : Nat) (ha : a ≤ 68) (hb : b ≤ 68) (hc : c ≤ 68) (hd : d ≤ 68) (he : e ≤ 68) (hf : f ≤ 68) (hg : g ≤ 68) (hh : h ≤ 68) : lay8 a b c d e f g h < 6000000000000000000 := by unfold lay8; omega
theorem o3_nat (a b c d e f g h : Nat) (ha : a ≤ 68) (hb : b ≤ 68) (hc : c ≤ 68) (hd : d ≤ 68) (he : e ≤ 68) (hf : f ≤ 68) (hg : g ≤ 68) (hh : h ≤ 68)
    (tb : b % 16 ≤ 4) (tc : c % 16 ≤ 4) (td : d % 16 ≤ 4) (te : e % 16 ≤ 4) (tf : f % 16 ≤ 4) (tg : g % 16 ≤ 4) (th : h % 16 ≤ 4) :
    o3 (lay8 a b c d e f g h : Nat) = (lay8 (c3 a) (c3 b) (c3 c) (c3 d) (c3 e) (c3 f) (c3 g) (c3 h) : Nat) := by
  have hx := lay8_small a b c d e f g h ha hb hc hd he hf hg hh
  have key := all3 a b c d e f g h ha hb hc hd he hf hg hh tb tc td te tf tg th
  generalize lay8 a b c d e f g h = x at hx key
  unfold o3
  rw [show (1085102592571150095 : Int) = ((1085102592571150095 : Nat) : Int) from rfl, show ((x : Int) / 16 + x) = ((x / 16 + x : Nat) : Int) by omega,
    wrap_nat _ (by omega), bits_and_u64_nat _ _ (by omega) (by decide), key]
theorem last_nat (n : Nat) (h : n < 9223372036854775808) (r : Nat) (hm : n % 128 = r) : Go.bits .and .i64 (wrap64 (n : Int)) 127 = (r : Int) := by
  have e : wrap64 (n : Int) = (n : Int) := by rw [← i64_w, IntKind.wrap_i64]; omega
  rw [e]
  have := Go.bits_mask .i64 63 (by decide) (fun n h0 h1 => by rw [IntKind.wrap_i64]; omega) 7 (by decide) (n : Int) (by omega) (by omega)
  refine Eq.trans this ?_
  omega
theorem o4_nat (x : Nat) (h : x < 6000000000000000000) : o4 (x : Int) = ((x + x / 256 : Nat) : Int) := by
  unfold o4; rw [show ((x : Int) + x / 256) = ((x + x / 256 : Nat) : Int) by omega]; exact wrap_nat _ (by omega)
theorem o5_nat (x : Nat) (h : x < 6500000000000000000) : o5 (x : Int) = ((x + x / 65536 : Nat) : Int) := by
  unfold o5; rw [show ((x : Int) + x / 65536) = ((x + x / 65536 : Nat) : Int) by omega]; exact wrap_nat _ (by omega)
theorem o6_nat (x : Nat) (h : x < 7000000000000000000) : o6 (x : Int) = ((x + x / 4294967296 : Nat) : Int) := by
  unfold o6; rw [show ((x : Int) + x / 4294967296) = ((x + x / 4294967296 : Nat) : Int) by omega]; exact wrap_nat _ (by omega)
theorem add1 (a b c d e f g h : Nat) (ha : a ≤ 8) (hb : b ≤ 8) (hc : c ≤ 8) (hd : d ≤ 8) (he : e ≤ 8) (hf : f ≤ 8) (hg : g ≤ 8) (hh : h ≤ 8) :
    lay8 a b c d e f g h + lay8 a b c d e f g h / 256 = lay8 (a + b) (b + c) (c + d) (d + e) (e + f) (f + g) (g + h) h := by unfold lay8; omega
theorem add2 (a b c d e f g h : Nat) (ha : a ≤ 16) (hb : b ≤ 16) (hc : c ≤ 16) (hd : d ≤ 16) (he : e ≤ 16) (hf : f ≤ 16) (hg : g ≤ 16) (hh : h ≤ 16) :
    lay8 a b c d e f g h + lay8 a b c d e f g h / 65536 = lay8 (a + c) (b + d) (c + e) (d + f) (e + g) (f + h) g h := by unfold lay8; omega
theorem add3 (a b c d e f g h : Nat) (ha : a ≤ 32) (hb : b ≤ 32) (hc : c ≤ 32) (hd : d ≤ 32) (he : e ≤ 32) (hf : f ≤ 32) (hg : g ≤ 32) (hh : h ≤ 32) :
    lay8 a b c d e f g h + lay8 a b c d e f g h / 4294967296 = lay8 (a + e) (b + f) (c + g) (d + h) e f g h := by unfold lay8; omega
theorem lay8_mod (a b c d e f g h : Nat) (ha : a < 128) : lay8 a b c d e f g h % 128 = a := by unfold lay8; omega
theorem o456 (a b c d e f g h : Nat) (ha : a ≤ 8) (hb : b ≤ 8) (hc : c ≤ 8) (hd : d ≤ 8) (he : e ≤ 8) (hf : f ≤ 8) (hg : g ≤ 8) (hh : h ≤ 8) :
    ∃ n : Nat, o6 (o5 (o4 (lay8 a b c d e f g h : Nat))) = (n : Int) ∧ n < 9223372036854775808 ∧ n % 128 = a + (b + (c + (d + (e + (f + (g + h)))))) := by
  have s1 := lay8_small a b c d e f g h (by omega) (by omega) (by omega) (by omega) (by omega) (by omega) (by omega) (by omega)
  rw [o4_nat _ s1, add1 a b c d e f g h ha hb hc hd he hf hg hh]
  have s2 := lay8_small (a + b) (b + c) (c + d) (d + e) (e + f) (f + g) (g + h) h (by omega) (by omega) (by omega) (by omega) (by omega) (by omega) (by omega) (by omega)
  rw [o5_nat _ (by omega), add2 _ _ _ _ _ _ _ _ (by omega) (by omega) (by omega) (by omega) (by omega) (by omega) (by omega) (by omega)]
  have s3 := lay8_small (a + b + (c + d)) (b + c + (d + e)) (c + d + (e + f)) (d + e + (f + g)) (e + f + (g + h)) (f + g + h) (g + h) h (by omega) (by omega) (by omega) (by omega) (by omega) (by omega) (by omega) (by omega)
  rw [o6_nat _ (by omega), add3 _ _ _ _ _ _ _ _ (by omega) (by omega) (by omega) (by omega) (by omega) (by omega) (by omega) (by omega)]
  have s4 := lay8_small (a + b + (c + d) + (e + f + (g + h))) (b + c + (d + e) + (f + g + h)) (c + d + (e + f) + (g + h)) (d + e + (f + g) + h) (e + f + (g + h)) (f + g + h) (g + h) h (by omega) (by omega) (by omega) (by omega) (by omega) (by omega) (by omega) (by omega)
  exact ⟨_, rfl, by omega, by rw [lay8_mod _ _ _ _ _ _ _ _ (by omega)]; omega⟩
/-- How many bits there are. -/
theorem ones_ok (x : Nat) (hx : x < 18446744073709551616) : bits_OnesCount64.f (x : Int) = some ((sumB x.testBit 64 : Nat) : Int) := by
  obtain ⟨a, b, c, d, e, f, g, h, ⟨ha, hb, hc, hd, he, hf, hg, hh⟩, rfl⟩ := lay8_of x hx
  rw [ones_form, o1_nat _ _ _ _ _ _ _ _ ha hb hc hd he hf hg hh]
  obtain ⟨a1, a2, a3, a4⟩ := d3 a ha
  obtain ⟨b1, b2, b3, b4⟩ := d3 b hb
  obtain ⟨c1, c2, c3, c4⟩ := d3 c hc
  obtain ⟨d1, d2, d3', d4⟩ := d3 d hd
  obtain ⟨e1, e2, e3, e4⟩ := d3 e he
  obtain ⟨f1, f2, f3, f4⟩ := d3 f hf
  obtain ⟨g1, g2, g3, g4⟩ := d3 g hg
  obtain ⟨h1, h2, h3, h4⟩ := d3 h hh
  rw [o2_nat _ _ _ _ _ _ _ _ a1 b1 c1 d1 e1 f1 g1 h1 (by omega) (by omega) (by omega) (by omega) (by omega) (by omega) (by omega) (by omega)]
  rw [o3_nat _ _ _ _ _ _ _ _ a2 b2 c2 d2 e2 f2 g2 h2 b3 c3 d3' e3 f3 g3 h3]
  obtain ⟨n, e1, e2, e3⟩ := o456 _ _ _ _ _ _ _ _ a4 b4 c4 d4 e4 f4 g4 h4
  rw [e1, last_nat n e2 _ e3, lay8_sum _ _ _ _ _ _ _ _ ha hb hc hd he hf hg, d5 a ha, d5 b hb, d5 c hc, d5 d hd, d5 e he, d5 f hf, d5 g hg, d5 h hh]
end Go.Proofs.YtfoheajcahiceaaDoor
