/- Whole numbers in floats: sums and products that fit are exact. -/
import Derived.Laws.ComplexArith
namespace Go.Proofs.Ytdgeofeijgflcaa
open Ieee
/-- A datum that stands for a whole number. -/
def IsZ (d : Datum) (z : Int) : Prop := ∃ (s : Bool) (k : Nat), d = .number s (z.natAbs * 2 ^ k) (-(k : Int)) ∧ (z < 0 → s = true) ∧ (0 < z → s = false)

theorem isZ_product {a b : Datum} {x y : Int} (ha : IsZ a x) (hb : IsZ b y) : ∃ d, a.product b = some d ∧ IsZ d (x * y) := by
  obtain ⟨s, k, rfl, h1, h2⟩ := ha
  obtain ⟨t, l, rfl, h3, h4⟩ := hb
  refine ⟨_, rfl, s ^^ t, k + l, ?_, ?_, ?_⟩
  · have e1 : x.natAbs * 2 ^ k * (y.natAbs * 2 ^ l) = (x * y).natAbs * 2 ^ (k + l) := by rw [Int.natAbs_mul, Nat.pow_add]; ac_rfl
    have e2 : -(k : Int) + -(l : Int) = -((k + l : Nat) : Int) := by omega
    rw [e1, e2]
  · intro h
    rcases Int.lt_trichotomy x 0 with hx | hx | hx
    · rcases Int.lt_trichotomy y 0 with hy | hy | hy
      · have := Int.mul_pos_of_neg_of_neg hx hy; omega
      · subst hy; simp at h
      · rw [h1 hx, h4 hy]; rfl
    · subst hx; simp at h
    · rcases Int.lt_trichotomy y 0 with hy | hy | hy
      · rw [h2 hx, h3 hy]; rfl
      · subst hy; simp at h
      · have := Int.mul_pos hx hy; omega
  · intro h
    rcases Int.lt_trichotomy x 0 with hx | hx | hx
    · rcases Int.lt_trichotomy y 0 with hy | hy | hy
      · rw [h1 hx, h3 hy]; rfl
      · subst hy; simp at h
      · have := Int.mul_neg_of_neg_of_pos hx hy; omega
    · subst hx; simp at h
    · rcases Int.lt_trichotomy y 0 with hy | hy | hy
      · have := Int.mul_neg_of_pos_of_neg hx hy; omega
      · subst hy; simp at h
      · rw [h2 hx, h4 hy]; rfl

theorem signed_isZ {s : Bool} {z : Int} (h1 : z < 0 → s = true) (h2 : 0 < z → s = false) (n up : Nat) : signed s (z.natAbs * n) up = z * ((n * 2 ^ up : Nat) : Int) := by
  unfold signed
  rw [Nat.shiftLeft_eq, Nat.mul_assoc]
  rcases Int.lt_trichotomy z 0 with h | h | h
  · rw [h1 h, if_pos rfl, Int.natCast_mul, Int.ofNat_natAbs_of_nonpos (by omega), Int.neg_mul, Int.neg_neg]
  · subst h; simp
  · rw [h2 h, if_neg (by simp), Int.natCast_mul, Int.natAbs_of_nonneg (by omega)]

theorem isZ_opposite {a : Datum} {x : Int} (ha : IsZ a x) : IsZ a.opposite (-x) := by
  obtain ⟨s, k, rfl, h1, h2⟩ := ha
  exact ⟨!s, k, by simp [Datum.opposite], fun h => by rw [h2 (by omega)]; rfl, fun h => by rw [h1 (by omega)]; rfl⟩

theorem isZ_sum {a b : Datum} {x y : Int} (ha : IsZ a x) (hb : IsZ b y) : ∃ d, a.sum b = some d ∧ IsZ d (x + y) := by
  obtain ⟨s, k, rfl, h1, h2⟩ := ha
  obtain ⟨t, l, rfl, h3, h4⟩ := hb
  have hbase : min (-(k : Int)) (-(l : Int)) = -((max k l : Nat) : Int) := by omega
  have e1 : (-(k : Int) - -((max k l : Nat) : Int)).toNat = max k l - k := by omega
  have e2 : (-(l : Int) - -((max k l : Nat) : Int)).toNat = max k l - l := by omega
  have g1 : 2 ^ k * 2 ^ (max k l - k) = 2 ^ (max k l) := by rw [← Nat.pow_add]; congr 1; omega
  have g2 : 2 ^ l * 2 ^ (max k l - l) = 2 ^ (max k l) := by rw [← Nat.pow_add]; congr 1; omega
  refine ⟨_, rfl, ?_⟩
  simp only [hbase, e1, e2, signed_isZ h1 h2, signed_isZ h3 h4, g1, g2]
  rw [← Int.add_mul]
  have hp : 0 < ((2 ^ max k l : Nat) : Int) := by exact_mod_cast Nat.two_pow_pos _
  refine ⟨if (x + y) * ((2 ^ max k l : Nat) : Int) = 0 then s && t else decide ((x + y) * ((2 ^ max k l : Nat) : Int) < 0), max k l, ?_, ?_, ?_⟩
  · rw [Int.natAbs_mul, Int.natAbs_natCast]
  · intro h
    have h0 := Int.mul_neg_of_neg_of_pos h hp
    rw [if_neg (by omega)]
    exact decide_eq_true h0
  · intro h
    have h0 := Int.mul_pos h hp
    rw [if_neg (by omega)]
    exact decide_eq_false (by omega)

theorem isZ_toInt {a : Datum} {x : Int} (ha : IsZ a x) : a.toInt .zero = some x := by
  obtain ⟨s, k, rfl, h1, h2⟩ := ha
  have hcut : Toward.zero.cut s ((x.natAbs * 2 ^ k) <<< (-(k : Int)).toNat) (- -(k : Int)).toNat = x.natAbs := by
    have e1 : (-(k : Int)).toNat = 0 := by omega
    have e2 : (- -(k : Int)).toNat = k := by omega
    rw [e1, e2, Nat.shiftLeft_zero]
    unfold Toward.cut
    simp only [Bool.toNat_false, Nat.add_zero, Nat.shiftLeft_eq, Nat.one_mul]
    by_cases h0 : x.natAbs = 0
    · rw [h0]; simp
    · have hl : k ≤ (x.natAbs * 2 ^ k).log2 := by
        rw [Nat.le_log2 (by have := Nat.two_pow_pos k; exact Nat.mul_ne_zero h0 (by omega))]
        exact Nat.le_mul_of_pos_left _ (by omega)
      rw [Nat.min_eq_left (by omega), Nat.mul_div_cancel _ (Nat.two_pow_pos k)]
  unfold Datum.toInt Datum.integral
  simp only [hcut]
  have := signed_isZ h1 h2 1 0
  simp only [Nat.mul_one, Nat.pow_zero] at this
  rw [this]; simp

theorem log2_shift {Z : Nat} (h : Z ≠ 0) (k : Nat) : (Z * 2 ^ k).log2 = Z.log2 + k := by
  have hp := Nat.two_pow_pos k
  have hne : Z * 2 ^ k ≠ 0 := Nat.mul_ne_zero h (by omega)
  have h1 : Z.log2 + k ≤ (Z * 2 ^ k).log2 := by
    rw [Nat.le_log2 hne, Nat.pow_add]
    exact Nat.mul_le_mul_right _ (Nat.log2_self_le h)
  have h2 : (Z * 2 ^ k).log2 < Z.log2 + k + 1 := by
    rw [Nat.log2_lt hne, show Z.log2 + k + 1 = (Z.log2 + 1) + k by omega, Nat.pow_add]
    exact Nat.mul_lt_mul_of_pos_right Nat.lt_log2_self hp
  omega
theorem cut_even {s : Bool} {Z k q : Nat} (hZ : Z ≠ 0) : Toward.even.cut s ((Z * 2 ^ k) <<< (q - k)) (k - q) = Z * 2 ^ q := by
  unfold Toward.cut
  simp only [Nat.shiftLeft_eq, Nat.one_mul]
  by_cases h : k ≤ q
  · have e : k - q = 0 := by omega
    rw [e, Nat.min_eq_left (Nat.zero_le _)]
    have e2 : Z * 2 ^ k * 2 ^ (q - k) = Z * 2 ^ q := by rw [Nat.mul_assoc, ← Nat.pow_add]; congr 2; omega
    rw [e2]
    simp [Nat.mod_one]
  · have e : q - k = 0 := by omega
    rw [e]
    simp only [Nat.pow_zero, Nat.mul_one]
    have hne : Z * 2 ^ k ≠ 0 := Nat.mul_ne_zero hZ (by have := Nat.two_pow_pos k; omega)
    have hl : k ≤ (Z * 2 ^ k).log2 := by
      rw [Nat.le_log2 hne]
      exact Nat.le_mul_of_pos_left _ (by omega)
    rw [Nat.min_eq_left (by omega)]
    have e2 : Z * 2 ^ k = Z * 2 ^ q * 2 ^ (k - q) := by rw [Nat.mul_assoc, ← Nat.pow_add]; congr 2; omega
    have hp := Nat.two_pow_pos (k - q)
    rw [e2, Nat.mul_div_cancel _ hp, Nat.mul_mod_left]
    have : ¬ (2 ^ (k - q) < 2 * 0) := by omega
    have h3 : (2 ^ (k - q) == 2 * 0) = false := by simp
    simp [h3]

theorem d_binade : double.binade = 4503599627370496 := by decide +kernel
theorem d_inf : double.infRung = 9218868437227405312 := by decide +kernel
theorem d_sign : double.signWeight = 9223372036854775808 := by decide +kernel
theorem d_least : double.leastPlace = -1074 := by decide +kernel
theorem read_word (s : Bool) (R : Nat) (h1 : 4503599627370496 ≤ R) (h2 : R < 9218868437227405312) : double.read (double.word s R) = .number s (4503599627370496 + R % 4503599627370496) (-1074 + ((R / 4503599627370496 - 1 : Nat) : Int)) := by
  have hword : double.word s R / double.signWeight % 2 = (if s then 1 else 0) ∧ double.word s R % double.signWeight = R := by
    unfold Format.word
    rw [d_sign]
    cases s <;> simp <;> omega
  unfold Format.read
  simp only [hword.1, hword.2]
  rw [d_binade, d_inf, d_least, if_neg (by omega), if_pos (by omega)]
  cases s <;> rfl
/-- What is written of a whole number that fits is read again. -/
theorem isZ_write {a : Datum} {x : Int} (ha : IsZ a x) (hx : x.natAbs < 2 ^ 53) : IsZ (double.read (double.write a)) x := by
  obtain ⟨s, k, rfl, h1, h2⟩ := ha
  by_cases h0 : x.natAbs = 0
  · have hx0 : x = 0 := by omega
    subst hx0
    refine ⟨s, 1074, ?_, fun h => by omega, fun h => by omega⟩
    simp only [Format.write, Format.nearest, Int.natAbs_zero, Nat.zero_mul, if_true]
    cases s <;> decide +kernel
  · generalize hZ : x.natAbs = Z at *
    have hl : Z.log2 ≤ 52 := by
      have := (Nat.log2_lt h0 (k := 53)).2 hx
      omega
    obtain ⟨q, hq⟩ : ∃ q, Z.log2 + q = 52 := ⟨52 - Z.log2, by omega⟩
    have hlog : (Z * 2 ^ k).log2 = Z.log2 + k := log2_shift h0 k
    have hne : Z * 2 ^ k ≠ 0 := Nat.mul_ne_zero h0 (by have := Nat.two_pow_pos k; omega)
    have hlast : max (-(k : Int) + ((Z * 2 ^ k).log2 : Nat) - (52 : Nat)) (-1074) = -(q : Int) := by
      rw [hlog]; omega
    have hlo : 4503599627370496 ≤ Z * 2 ^ q := by
      rw [show 4503599627370496 = 2 ^ 52 by decide +kernel, ← hq, Nat.pow_add]
      exact Nat.mul_le_mul_right _ (Nat.log2_self_le h0)
    have hhi : Z * 2 ^ q < 9007199254740992 := by
      have : Z < 2 ^ (Z.log2 + 1) := Nat.lt_log2_self
      have e : 9007199254740992 = 2 ^ (Z.log2 + 1) * 2 ^ q := by rw [← Nat.pow_add, show Z.log2 + 1 + q = 53 by omega]
      rw [e]
      exact Nat.mul_lt_mul_of_pos_right this (Nat.two_pow_pos q)
    have hlp := d_least
    have hw : double.write (.number s (Z * 2 ^ k) (-(k : Int))) = double.word s ((1074 - q) * 4503599627370496 + Z * 2 ^ q) := by
      show double.nearest _ _ _ = _
      unfold Format.nearest
      have hfb : double.fractionBits = 52 := rfl
      rw [if_neg hne, hlp, hfb]
      dsimp only
      rw [hlast, d_binade, d_inf]
      have e1 : (-(k : Int) - -(q : Int)).toNat = q - k := by omega
      have e2 : (-(q : Int) - -(k : Int)).toNat = k - q := by omega
      have e3 : (-(q : Int) - -1074).toNat = 1074 - q := by omega
      rw [e1, e2, e3, cut_even h0, Nat.min_eq_left (by omega)]
    rw [hw]
    refine ⟨s, q, ?_, fun h => h1 (by omega), fun h => h2 (by omega)⟩
    rw [hZ, read_word _ _ (by omega) (by omega)]
    have hmod : ((1074 - q) * 4503599627370496 + Z * 2 ^ q) % 4503599627370496 = Z * 2 ^ q - 4503599627370496 := by omega
    have hdiv : ((1074 - q) * 4503599627370496 + Z * 2 ^ q) / 4503599627370496 = 1075 - q := by omega
    rw [hmod, hdiv]
    have e1 : 4503599627370496 + (Z * 2 ^ q - 4503599627370496) = Z * 2 ^ q := by omega
    have e2 : (-1074 : Int) + ((1075 - q - 1 : Nat) : Int) = -(q : Int) := by omega
    rw [e1, e2]
/-- Bits that stand for a whole number. -/
def Rep (b : Nat) (z : Int) : Prop := IsZ (double.read b) z
theorem rep_of {z : Int} (h : z.natAbs < 2 ^ 53) : Rep (floatOfInt .f64 z) z :=
  isZ_write (a := .number (z < 0) z.natAbs 0) ⟨z < 0, 0, by simp, fun h => decide_eq_true h, fun h => decide_eq_false (by omega)⟩ h
theorem rep_mul {x y : Nat} {a b : Int} (hx : Rep x a) (hy : Rep y b) (h : (a * b).natAbs < 2 ^ 53) : ∃ r, floatBits .mul .f64 x y = some r ∧ Rep r (a * b) := by
  obtain ⟨d, hd, hz⟩ := isZ_product hx hy
  exact ⟨double.write d, by show ((double.read x).product (double.read y)).map double.write = _; rw [hd]; rfl, isZ_write hz h⟩
theorem rep_add {x y : Nat} {a b : Int} (hx : Rep x a) (hy : Rep y b) (h : (a + b).natAbs < 2 ^ 53) : ∃ r, floatBits .add .f64 x y = some r ∧ Rep r (a + b) := by
  obtain ⟨d, hd, hz⟩ := isZ_sum hx hy
  exact ⟨double.write d, by show ((double.read x).sum (double.read y)).map double.write = _; rw [hd]; rfl, isZ_write hz h⟩
theorem rep_sub {x y : Nat} {a b : Int} (hx : Rep x a) (hy : Rep y b) (h : (a - b).natAbs < 2 ^ 53) : ∃ r, floatBits .sub .f64 x y = some r ∧ Rep r (a - b) := by
  obtain ⟨d, hd, hz⟩ := isZ_sum hx (isZ_opposite hy)
  exact ⟨double.write d, by show ((double.read x).sum (double.read y).opposite).map double.write = _; rw [hd]; rfl, isZ_write hz h⟩
theorem rep_int {x : Nat} {a : Int} (hx : Rep x a) (h1 : -9223372036854775808 ≤ a) (h2 : a ≤ 9223372036854775807) : floatToIntVal .f64 x .i64 = some a := by
  unfold floatToIntVal
  have : (FloatKind.f64.decode x).toInt .zero = some a := isZ_toInt hx
  rw [this]
  have e1 : IntKind.i64.min = -9223372036854775808 := by decide +kernel
  have e2 : IntKind.i64.max = 9223372036854775807 := by decide +kernel
  simp only [e1, e2]
  rw [if_pos ⟨h1, h2⟩]
theorem mul_low {a b : Int} (ha : -32768 ≤ a) (ha2 : a ≤ 32767) (hb : -32768 ≤ b) (hb2 : b ≤ 32767) : -1073741824 ≤ a * b ∧ a * b ≤ 1073741824 := by
  have h : (a * b).natAbs ≤ 32768 * 32768 := by
    rw [Int.natAbs_mul]
    exact Nat.mul_le_mul (by omega) (by omega)
  omega
/-- The product of two small complex numbers. -/
theorem mul_small {a b c d : Int} (ha : -32768 ≤ a ∧ a ≤ 32767) (hb : -32768 ≤ b ∧ b ≤ 32767) (hc : -32768 ≤ c ∧ c ≤ 32767) (hd : -32768 ≤ d ∧ d ≤ 32767) :
    ∃ re im, cMulBits (floatOfInt .f64 a) (floatOfInt .f64 b) (floatOfInt .f64 c) (floatOfInt .f64 d) = some (re, im) ∧ floatToIntVal .f64 re .i64 = some (a * c - b * d) ∧ floatToIntVal .f64 im .i64 = some (a * d + b * c) := by
  have h1 := mul_low ha.1 ha.2 hc.1 hc.2
  have h2 := mul_low hb.1 hb.2 hd.1 hd.2
  have h3 := mul_low ha.1 ha.2 hd.1 hd.2
  have h4 := mul_low hb.1 hb.2 hc.1 hc.2
  obtain ⟨ac, e1, r1⟩ := rep_mul (rep_of (z := a) (by omega)) (rep_of (z := c) (by omega)) (by omega)
  obtain ⟨bd, e2, r2⟩ := rep_mul (rep_of (z := b) (by omega)) (rep_of (z := d) (by omega)) (by omega)
  obtain ⟨re, e3, r3⟩ := rep_sub r1 r2 (by omega)
  obtain ⟨ad, e4, r4⟩ := rep_mul (rep_of (z := a) (by omega)) (rep_of (z := d) (by omega)) (by omega)
  obtain ⟨bc, e5, r5⟩ := rep_mul (rep_of (z := b) (by omega)) (rep_of (z := c) (by omega)) (by omega)
  obtain ⟨im, e6, r6⟩ := rep_add r4 r5 (by omega)
  refine ⟨re, im, ?_, rep_int r3 (by omega) (by omega), rep_int r6 (by omega) (by omega)⟩
  unfold cMulBits
  simp only [e1, e2, e3, e4, e5, e6, Option.bind_some]
end Go.Proofs.Ytdgeofeijgflcaa
