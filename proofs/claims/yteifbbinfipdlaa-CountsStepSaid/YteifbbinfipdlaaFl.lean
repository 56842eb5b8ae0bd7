/- Whole numbers of 34 bits as numbers with a point: nothing is lost, and sums are sums. -/
import Derived.Test.YteifbbinfipdlaaE1
namespace Go.Sx
open Ieee
set_option maxRecDepth 100000
set_option linter.unusedSimpArgs false

theorem cut0 (w : Toward) (s : Bool) (hw : w = .even ∨ w = .zero) (n : Nat) : w.cut s n 0 = n := by
  rcases hw with rfl | rfl <;> simp [Toward.cut, Nat.mod_one]
theorem cutE (w : Toward) (s : Bool) (hw : w = .even ∨ w = .zero) (n d : Nat) (h0 : n ≠ 0) : w.cut s (n * 2 ^ d) d = n := by
  have hp := Nat.two_pow_pos d
  have hne : n * 2 ^ d ≠ 0 := Nat.mul_ne_zero h0 (by omega)
  have hl : d ≤ (n * 2 ^ d).log2 := (Nat.le_log2 hne).2 (Nat.le_mul_of_pos_left _ (by omega))
  have hm : min d ((n * 2 ^ d).log2 + 2) = d := by omega
  unfold Toward.cut
  simp only [hm, Nat.one_shiftLeft]
  rw [Nat.mul_div_cancel _ hp, Nat.mul_mod_left]
  rcases hw with rfl | rfl
  · have h1 : (2 ^ d == 2 * 0) = false := by simp
    have h2 : decide (2 ^ d < 2 * 0) = false := by simp
    simp [h1, h2]
  · simp
theorem log2_mul (n d : Nat) (h0 : n ≠ 0) : (n * 2 ^ d).log2 = n.log2 + d := by
  have hp := Nat.two_pow_pos d
  have hne : n * 2 ^ d ≠ 0 := Nat.mul_ne_zero h0 (by omega)
  apply Nat.le_antisymm
  · have : n * 2 ^ d < 2 ^ (n.log2 + d + 1) := by
      rw [show n.log2 + d + 1 = (n.log2 + 1) + d by omega, Nat.pow_add]
      exact Nat.mul_lt_mul_of_pos_right Nat.lt_log2_self hp
    have := (Nat.log2_lt hne).2 this
    omega
  · rw [Nat.le_log2 hne, Nat.pow_add]
    exact Nat.mul_le_mul_right _ (Nat.log2_self_le h0)
/-- The rung of a whole number. -/
def rungN (n : Nat) : Nat := if n = 0 then 0 else (n.log2 + 1022) * 4503599627370496 + n * 2 ^ (52 - n.log2)
theorem leastD : double.leastPlace = -1074 := by decide
theorem near_eq (s : Bool) (n e : Nat) (hn : n < 2 ^ 34) (_he : e ≤ 1074) : double.nearest s (n * 2 ^ e) (-(e : Int)) = double.word s (rungN n) := by
  by_cases h0 : n = 0
  · subst h0; simp [Format.nearest, rungN]
  have hp := Nat.two_pow_pos e
  have hne : n * 2 ^ e ≠ 0 := Nat.mul_ne_zero h0 (by omega)
  have hL : n.log2 < 34 := (Nat.log2_lt h0).2 hn
  unfold Format.nearest rungN
  rw [if_neg hne, if_neg h0, log2_mul n e h0, leastD]
  have hlast : max (-(e : Int) + ((n.log2 + e : Nat) : Int) - (double.fractionBits : Int)) (-1074) = (n.log2 : Int) - 52 := by
    have : (double.fractionBits : Int) = 52 := rfl
    rw [this]; omega
  simp only [hlast]
  have hk : Toward.even.cut s ((n * 2 ^ e) <<< (-(e : Int) - ((n.log2 : Int) - 52)).toNat) (((n.log2 : Int) - 52) - -(e : Int)).toNat = n * 2 ^ (52 - n.log2) := by
    rw [Nat.shiftLeft_eq]
    by_cases hc : e ≤ 52 - n.log2
    · have e1 : (((n.log2 : Int) - 52) - -(e : Int)).toNat = 0 := by omega
      have e2 : (-(e : Int) - ((n.log2 : Int) - 52)).toNat = 52 - n.log2 - e := by omega
      rw [e1, e2, cut0 _ _ (.inl rfl), Nat.mul_assoc, ← Nat.pow_add, show e + (52 - n.log2 - e) = 52 - n.log2 by omega]
    · have e1 : (((n.log2 : Int) - 52) - -(e : Int)).toNat = e - (52 - n.log2) := by omega
      have e2 : (-(e : Int) - ((n.log2 : Int) - 52)).toNat = 0 := by omega
      rw [e1, e2, Nat.pow_zero, Nat.mul_one, show n * 2 ^ e = (n * 2 ^ (52 - n.log2)) * 2 ^ (e - (52 - n.log2)) by rw [Nat.mul_assoc, ← Nat.pow_add, show 52 - n.log2 + (e - (52 - n.log2)) = e by omega]]
      exact cutE _ _ (.inl rfl) _ _ (Nat.mul_ne_zero h0 (by have := Nat.two_pow_pos (52 - n.log2); omega))
  rw [hk]
  have hlt : n * 2 ^ (52 - n.log2) < 9007199254740992 := by
    have h1 : n < 2 ^ (n.log2 + 1) := Nat.lt_log2_self
    have := Nat.mul_lt_mul_of_pos_right h1 (Nat.two_pow_pos (52 - n.log2))
    rwa [← Nat.pow_add, show n.log2 + 1 + (52 - n.log2) = 53 by omega, show (2 : Nat) ^ 53 = 9007199254740992 from rfl] at this
  have hb : double.binade = 4503599627370496 := rfl
  have hi : double.infRung = 9218868437227405312 := by decide
  have e3 : ((n.log2 : Int) - 52 - -1074).toNat = n.log2 + 1022 := by omega
  rw [e3, hb, hi]
  generalize n * 2 ^ (52 - n.log2) = k at *
  have h8 : (n.log2 + 1022) * 4503599627370496 ≤ 1055 * 4503599627370496 := Nat.mul_le_mul_right _ (by omega)
  rw [Nat.min_eq_left (Nat.le_trans (Nat.add_le_add h8 (Nat.le_of_lt hlt)) (by decide))]
theorem word_read (s : Bool) (n : Nat) (hn : n < 2 ^ 34) : double.read (double.word s (rungN n)) = if n = 0 then .number s 0 (-1074) else .number s (n * 2 ^ (52 - n.log2)) ((n.log2 : Int) - 52) := by
  have hw : double.signWeight = 9223372036854775808 := rfl
  have hb : double.binade = 4503599627370496 := rfl
  have hi : double.infRung = 9218868437227405312 := by decide
  have hr : rungN n < 9223372036854775808 := by
    unfold rungN
    split
    · decide
    · rename_i h0
      have hL : n.log2 < 34 := (Nat.log2_lt h0).2 hn
      have h1 : n < 2 ^ (n.log2 + 1) := Nat.lt_log2_self
      have := Nat.mul_lt_mul_of_pos_right h1 (Nat.two_pow_pos (52 - n.log2))
      rw [← Nat.pow_add, show n.log2 + 1 + (52 - n.log2) = 53 by omega, show (2 : Nat) ^ 53 = 9007199254740992 from rfl] at this
      have : (n.log2 + 1022) * 4503599627370496 ≤ 1055 * 4503599627370496 := Nat.mul_le_mul_right _ (by omega)
      omega
  have h1 : (double.word s (rungN n)) / 9223372036854775808 % 2 = s.toNat ∧ (double.word s (rungN n)) % 9223372036854775808 = rungN n := by
    unfold Format.word
    rw [hw]
    cases s
    · simp only [Bool.false_eq_true, if_false, Bool.toNat_false]
      rw [Nat.div_eq_of_lt hr, Nat.mod_eq_of_lt hr]; exact ⟨rfl, rfl⟩
    · simp only [if_true, Bool.toNat_true]
      omega
  unfold Format.read
  simp only [hw, hb, hi, h1.1, h1.2, leastD]
  have hs : (s.toNat == 1) = s := by cases s <;> rfl
  rw [hs]
  by_cases h0 : n = 0
  · subst h0
    simp [rungN]
  · have hL : n.log2 < 34 := (Nat.log2_lt h0).2 hn
    have hlo : 4503599627370496 ≤ n * 2 ^ (52 - n.log2) := by
      have := Nat.mul_le_mul_right (2 ^ (52 - n.log2)) (Nat.log2_self_le h0)
      rwa [← Nat.pow_add, show n.log2 + (52 - n.log2) = 52 by omega, show (2 : Nat) ^ 52 = 4503599627370496 from rfl] at this
    have hhi : n * 2 ^ (52 - n.log2) < 9007199254740992 := by
      have h1 : n < 2 ^ (n.log2 + 1) := Nat.lt_log2_self
      have := Nat.mul_lt_mul_of_pos_right h1 (Nat.two_pow_pos (52 - n.log2))
      rwa [← Nat.pow_add, show n.log2 + 1 + (52 - n.log2) = 53 by omega, show (2 : Nat) ^ 53 = 9007199254740992 from rfl] at this
    unfold rungN
    rw [if_neg h0, if_neg h0]
    generalize n * 2 ^ (52 - n.log2) = k at *
    have hd : ((n.log2 + 1022) * 4503599627370496 + k) / 4503599627370496 = n.log2 + 1023 := by
      rw [Nat.div_eq_of_lt_le] <;> omega
    have hm : ((n.log2 + 1022) * 4503599627370496 + k) % 4503599627370496 = k - 4503599627370496 := by omega
    have h8 : (n.log2 + 1022) * 4503599627370496 ≤ 1055 * 4503599627370496 := Nat.mul_le_mul_right _ (by omega)
    have q1 : ¬ ((n.log2 + 1022) * 4503599627370496 + k < 4503599627370496) := Nat.not_lt.2 (Nat.le_trans hlo (Nat.le_add_left _ _))
    have q2 : (n.log2 + 1022) * 4503599627370496 + k < 9218868437227405312 := Nat.lt_of_lt_of_le (Nat.add_lt_add_of_le_of_lt h8 hhi) (by decide)
    have h9 : 4503599627370496 + (k - 4503599627370496) = k := Nat.add_sub_cancel' hlo
    rw [if_neg q1, if_pos q2, hd, hm, h9]
    have h10 : (-1074 : Int) + ((n.log2 + 1023 - 1 : Nat) : Int) = (n.log2 : Int) - 52 := by omega
    rw [h10]
/-- What a number stands for, as the words that read it see it. -/
def datN (s : Bool) (n : Nat) : Datum := if n = 0 then .number s 0 (-1074) else .number s (n * 2 ^ (52 - n.log2)) ((n.log2 : Int) - 52)
theorem near_int (n : Int) (hn : n.natAbs < 2 ^ 34) : FloatKind.f64.nearest n = double.word (decide (n < 0)) (rungN n.natAbs) := by
  have := near_eq (decide (n < 0)) n.natAbs 0 hn (by omega)
  rw [Nat.pow_zero, Nat.mul_one] at this
  exact this
theorem decode_int (n : Int) (hn : n.natAbs < 2 ^ 34) : FloatKind.f64.decode (FloatKind.f64.nearest n) = datN (decide (n < 0)) n.natAbs := by
  rw [near_int n hn]
  exact word_read _ _ hn
theorem signed_mul (s : Bool) (m u : Nat) : signed s m u = (if s = true then -(m : Int) else m) * ((2 ^ u : Nat) : Int) := by
  unfold signed
  cases s
  · simp [Nat.shiftLeft_eq]
  · simp [Nat.shiftLeft_eq, Int.neg_mul]
theorem sign_abs (n : Int) : (if decide (n < 0) = true then -(n.natAbs : Int) else n.natAbs) = n := by
  by_cases h : n < 0
  · rw [if_pos (by simpa using h)]; omega
  · rw [if_neg (by simpa using h)]; omega
/-- Scaled to a place, a whole number is itself that often. -/
theorem dat_signed (n : Int) (hn : n.natAbs < 2 ^ 34) :
    ∃ m i, datN (decide (n < 0)) n.natAbs = .number (decide (n < 0)) m i ∧ -1074 ≤ i ∧ i ≤ 0 ∧ ∀ b, b ≤ i → signed (decide (n < 0)) m (i - b).toNat = n * ((2 ^ (-b).toNat : Nat) : Int) := by
  unfold datN
  by_cases h0 : n.natAbs = 0
  · have : n = 0 := by omega
    subst this
    exact ⟨0, -1074, rfl, by omega, by omega, fun b _ => by simp [signed]⟩
  · rw [if_neg h0]
    have hne : n ≠ 0 := by omega
    generalize hN : n.natAbs = N at *
    have hL : N.log2 < 34 := (Nat.log2_lt h0).2 hn
    refine ⟨_, _, rfl, by omega, by omega, fun b hbi => ?_⟩
    rw [signed_mul]
    have e : (52 - N.log2) + (((N.log2 : Int) - 52) - b).toNat = (-b).toNat := by omega
    have h3 : (if decide (n < 0) = true then -((N * 2 ^ (52 - N.log2) : Nat) : Int) else ((N * 2 ^ (52 - N.log2) : Nat) : Int)) = n * ((2 ^ (52 - N.log2) : Nat) : Int) := by
      by_cases h : n < 0
      · rw [if_pos (by simpa using h), Int.natCast_mul, ← Int.neg_mul, show -(N : Int) = n by omega]
      · rw [if_neg (by simpa using h), Int.natCast_mul, show (N : Int) = n by omega]
    rw [h3, Int.mul_assoc, ← Int.natCast_mul, ← Nat.pow_add, e]
theorem add_int (a b : Int) (ha : a.natAbs < 2 ^ 33) (hb : b.natAbs < 2 ^ 33) : FloatKind.f64.format.add (FloatKind.f64.nearest a) (FloatKind.f64.nearest b) = some (FloatKind.f64.nearest (a + b)) := by
  have ha' : a.natAbs < 2 ^ 34 := by omega
  have hb' : b.natAbs < 2 ^ 34 := by omega
  have hab : (a + b).natAbs < 2 ^ 34 := by omega
  have da := decode_int a ha'
  have db := decode_int b hb'
  obtain ⟨m, i, ea, i0, i1, sa⟩ := dat_signed a ha'
  obtain ⟨q, j, eb, j0, j1, sb⟩ := dat_signed b hb'
  rw [ea] at da
  rw [eb] at db
  have hadd : FloatKind.f64.format.add (FloatKind.f64.nearest a) (FloatKind.f64.nearest b) = ((FloatKind.f64.decode (FloatKind.f64.nearest a)).sum (FloatKind.f64.decode (FloatKind.f64.nearest b))).map double.write := rfl
  rw [hadd, da, db]
  have hsa := sa (min i j) (by omega)
  have hsb := sb (min i j) (by omega)
  obtain ⟨e, he⟩ : ∃ e : Nat, min i j = -(e : Int) := ⟨(-(min i j)).toNat, by omega⟩
  have he2 : e ≤ 1074 := by omega
  simp only [Datum.sum, hsa, hsb, Option.map_some, Format.write]
  rw [← Int.add_mul, he]
  have he3 : (- -(e : Int)).toNat = e := by omega
  rw [he3]
  have hp : (0 : Int) < ((2 ^ e : Nat) : Int) := by have := Nat.two_pow_pos e; omega
  have hz : ((a + b) * ((2 ^ e : Nat) : Int) = 0) ↔ a + b = 0 := by
    constructor
    · intro h; rcases Int.mul_eq_zero.1 h with h | h
      · exact h
      · omega
    · intro h; rw [h, Int.zero_mul]
  have hneg : ((a + b) * ((2 ^ e : Nat) : Int) < 0) ↔ a + b < 0 := by
    constructor
    · intro h
      rcases Int.lt_or_le (a + b) 0 with h1 | h1
      · exact h1
      · have := Int.mul_nonneg h1 (Int.le_of_lt hp); omega
    · intro h; exact Int.mul_neg_of_neg_of_pos h hp
  have hsg : (if (a + b) * ((2 ^ e : Nat) : Int) = 0 then decide (a < 0) && decide (b < 0) else decide ((a + b) * ((2 ^ e : Nat) : Int) < 0)) = decide (a + b < 0) := by
    by_cases h : a + b = 0
    · rw [if_pos (hz.2 h)]
      have h1 : decide (a + b < 0) = false := by simp [h]
      rw [h1]
      by_cases h2 : a < 0
      · have : ¬ b < 0 := by omega
        simp [this]
      · simp [h2]
    · rw [if_neg (fun hh => h (hz.1 hh))]
      exact decide_eq_decide.2 hneg
  rw [hsg, Int.natAbs_mul, Int.natAbs_natCast, near_eq _ _ _ hab he2, near_int _ hab]
theorem toInt_int (n : Int) (hn : n.natAbs < 2 ^ 34) : (FloatKind.f64.decode (FloatKind.f64.nearest n)).toInt .zero = some n := by
  rw [decode_int n hn]
  unfold datN
  by_cases h0 : n.natAbs = 0
  · have : n = 0 := by omega
    subst this
    rfl
  · rw [if_neg h0]
    have hL : n.natAbs.log2 < 34 := (Nat.log2_lt h0).2 hn
    have e1 : ((n.natAbs.log2 : Int) - 52).toNat = 0 := by omega
    have e2 : (-((n.natAbs.log2 : Int) - 52)).toNat = 52 - n.natAbs.log2 := by omega
    simp only [Datum.toInt, Datum.integral, e1, e2, Nat.shiftLeft_zero]
    rw [cutE _ _ (.inr rfl) _ _ h0, signed_mul, Nat.pow_zero]
    have := sign_abs n
    simp only [Int.natCast_one, Int.mul_one]
    rw [this]
end Go.Sx
