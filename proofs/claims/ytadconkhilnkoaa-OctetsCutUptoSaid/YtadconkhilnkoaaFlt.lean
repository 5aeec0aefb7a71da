/- Plain facts on floats: which words are NaNs, infinite, finite. -/
import Derived.Test.YtadconkhilnkoaaBase
namespace Go.Inc
open Go.RowKit

/-- The rung of infinity of a float64. -/
def infR : Nat := 9218868437227405312
theorem infRung_double : Ieee.double.infRung = infR := by decide +kernel
theorem signW_double : Ieee.double.signWeight = 9223372036854775808 := by decide +kernel
theorem binade_double : Ieee.double.binade = 4503599627370496 := by decide +kernel
theorem least_double : Ieee.double.leastPlace = -1074 := by decide +kernel
/-- A finite float's bits. -/
def fin (x : Nat) : Bool := decide (x % 9223372036854775808 < infR)

theorem read_fin (x : Nat) (h : fin x = true) : ∃ m p, Ieee.double.read x = .number (x / 9223372036854775808 % 2 == 1) m p ∧ m < 9007199254740992 ∧ p ≤ 971 ∧ -1074 ≤ p := by
  unfold fin at h
  have h := of_decide_eq_true h
  unfold Ieee.Format.read
  simp only [infRung_double, signW_double, binade_double, least_double]
  by_cases h1 : x % 9223372036854775808 < 4503599627370496
  · rw [if_pos h1]
    exact ⟨_, _, rfl, by omega, by omega, by omega⟩
  · rw [if_neg h1, if_pos h]
    unfold infR at h
    exact ⟨_, _, rfl, by omega, by omega, by omega⟩

theorem read_inf (x : Nat) (h : x % 9223372036854775808 = infR) : Ieee.double.read x = .infinity (x / 9223372036854775808 % 2 == 1) := by
  unfold Ieee.Format.read
  simp only [infRung_double, signW_double, binade_double, least_double]
  rw [if_neg (by unfold infR at h; omega), if_neg (by omega), if_pos h]

theorem read_nan (x : Nat) (h : infR < x % 9223372036854775808) : ∃ n f, Ieee.double.read x = .nan n f := by
  unfold Ieee.Format.read
  simp only [infRung_double, signW_double, binade_double, least_double]
  rw [if_neg (by unfold infR at h; omega), if_neg (by omega), if_neg (by omega)]
  exact ⟨_, _, rfl⟩

theorem order_self (x : Nat) : (Ieee.double.order x x == some .eq) = decide (x % 9223372036854775808 ≤ infR) := by
  unfold Ieee.Format.order
  rcases Nat.lt_trichotomy (x % 9223372036854775808) infR with h | h | h
  · obtain ⟨m, p, hr, _⟩ := read_fin x (by unfold fin; exact decide_eq_true h)
    rw [hr]
    simp [Ieee.Datum.order]
    omega
  · rw [read_inf x h]
    simp [Ieee.Datum.order]
    omega
  · obtain ⟨n, f, hr⟩ := read_nan x h
    rw [hr]
    simp [Ieee.Datum.order]
    omega

theorem order_nan_left (x y : Nat) (h : infR < x % 9223372036854775808) : Ieee.double.order x y = none := by
  obtain ⟨n, f, hr⟩ := read_nan x h
  unfold Ieee.Format.order
  rw [hr]; rfl

theorem sub_self_fin (x : Nat) (h : fin x = true) : Ieee.double.sub x x = some 0 := by
  obtain ⟨m, p, hr, _⟩ := read_fin x h
  unfold Ieee.Format.sub
  rw [hr]
  have ht : Ieee.signed (x / 9223372036854775808 % 2 == 1) m (p - min p p).toNat + Ieee.signed (!(x / 9223372036854775808 % 2 == 1)) m (p - min p p).toNat = 0 := by
    unfold Ieee.signed
    cases (x / 9223372036854775808 % 2 == 1) <;> simp <;> omega
  simp only [Ieee.Datum.opposite, Ieee.Datum.sum, ht, Option.map_some, Ieee.Format.write, if_true]
  cases (x / 9223372036854775808 % 2 == 1) <;> rfl

theorem sub_self_not (x : Nat) (h : fin x = false) : Ieee.double.sub x x = none := by
  unfold fin at h
  have h := of_decide_eq_false h
  unfold Ieee.Format.sub
  rcases Nat.lt_trichotomy (x % 9223372036854775808) infR with h1 | h1 | h1
  · omega
  · rw [read_inf x h1]
    cases (x / 9223372036854775808 % 2 == 1) <;> rfl
  · obtain ⟨n, f, hr⟩ := read_nan x h1
    rw [hr]; rfl

/-- Of a magnitude: it is above the greatest float just if it is infinite. -/
theorem gt_max (y : Nat) (h : y < 9223372036854775808) (hn : y ≤ infR) : (Ieee.double.order y 9218868437227405311 == some .gt) = decide (y = infR) := by
  have hm : Ieee.double.read 9218868437227405311 = .number false 9007199254740991 971 := by decide +kernel
  unfold Ieee.Format.order
  rw [hm]
  have hy : y % 9223372036854775808 = y := Nat.mod_eq_of_lt h
  rcases Nat.lt_or_ge y infR with h1 | h1
  · obtain ⟨m, p, hr, h2, h3, h4⟩ := read_fin y (by unfold fin; rw [hy]; exact decide_eq_true h1)
    rw [hr]
    have hz : (y / 9223372036854775808 % 2 == 1) = false := by rw [Nat.div_eq_of_lt h]; rfl
    rw [hz]
    have hne : ¬ y = infR := by omega
    simp only [hne, decide_false, Ieee.Datum.order]
    have hmin : min p 971 = p := by omega
    rw [hmin]
    have hle : Ieee.signed false m (p - p).toNat ≤ Ieee.signed false 9007199254740991 (971 - p).toNat := by
      have h1 : (p - p).toNat = 0 := by omega
      rw [h1]
      simp only [Ieee.signed, Bool.false_eq_true, if_false, Nat.shiftLeft_eq, Nat.pow_zero, Nat.mul_one]
      have : 1 ≤ 2 ^ (971 - p).toNat := Nat.one_le_two_pow
      have : 9007199254740991 * 1 ≤ 9007199254740991 * 2 ^ (971 - p).toNat := Nat.mul_le_mul_left _ this
      omega
    have hc : compare (Ieee.signed false m (p - p).toNat) (Ieee.signed false 9007199254740991 (971 - p).toNat) ≠ .gt := by
      intro hc
      have := Int.compare_eq_gt.1 hc
      omega
    simpa using hc
  · obtain rfl : y = infR := by omega
    rw [read_inf infR (by decide +kernel)]
    decide +kernel

theorem andNot_sign (x : Nat) (h : x < 18446744073709551616) : bits .andNot .u64 (x : Int) 9223372036854775808 = ((x % 9223372036854775808 : Nat) : Int) := by
  have hb : ~~~(BitVec.ofInt 64 9223372036854775808) = BitVec.ofNat 64 (2 ^ 63 - 1) := by decide +kernel
  have ha : BitVec.ofInt 64 (x : Int) = BitVec.ofNat 64 x := BitVec.ofInt_natCast ..
  show IntKind.u64.wrap ((BitVec.ofInt 64 (x : Int) &&& ~~~(BitVec.ofInt 64 9223372036854775808)).toNat : Int) = _
  rw [hb, ha, BitVec.toNat_and, BitVec.toNat_ofNat, BitVec.toNat_ofNat, Nat.mod_eq_of_lt (a := x) (by omega), Nat.mod_eq_of_lt (a := 2 ^ 63 - 1) (by decide), Nat.and_two_pow_sub_one_eq_mod]
  exact wrap_u64_in _ (by omega) (by omega)

theorem and_2047 (x : Nat) (h : x < 18446744073709551616) : bits .and .u64 ((x : Int) / 4503599627370496) 2047 = (x : Int) / 4503599627370496 % 2048 := by
  have := bits_mask .u64 64 (by decide) wraps_u64 11 (by decide) ((x : Int) / 4503599627370496) (by omega) (by omega)
  rw [show ((2 : Int) ^ 11 - 1) = 2047 from rfl] at this
  rw [this]
  omega
theorem fin_exp (x : Nat) : fin x = !decide (x / 4503599627370496 % 2048 = 2047) := by
  unfold fin infR
  by_cases h1 : x / 4503599627370496 % 2048 = 2047
  · rw [decide_eq_true h1, decide_eq_false (by omega)]; rfl
  · rw [decide_eq_false h1, decide_eq_true (by omega)]; rfl

/-- The NaN that a run draws for 'x - x', x not finite. -/
def nanv (w : World) (x : Nat) : Nat := (Question.nanBits .f64 x x).cut (w.tape w.drawn (.nanBits .f64 x x))
theorem nanv_nan (w : World) (x : Nat) : infR < nanv w x % 9223372036854775808 := by
  have key : ∀ t : Nat, infR < ((t % 2) * 9223372036854775808 + 9218868437227405312 + 1 + (t / 2) % 4503599627370495) % 9223372036854775808 := by
    intro t
    unfold infR
    have h := Nat.mod_lt (t / 2) (show 0 < 4503599627370495 by decide)
    rcases Nat.mod_two_eq_zero_or_one t with h2 | h2 <;> rw [h2] <;> omega
  exact key _
theorem run_sub_fin {P : Program} (t : TypeId) (x : Nat) (h : fin x = true) (w : World) : (binOp .sub t (.float .f64 x) (.float .f64 x)).run P w = .ok (.float .f64 0) w := by
  have := sub_self_fin x h
  simp [binOp, Op.floatArith, FloatKind.format, this]
theorem run_sub_not {P : Program} (t : TypeId) (x : Nat) (h : fin x = false) (w : World) : (binOp .sub t (.float .f64 x) (.float .f64 x)).run P w = .ok (.float .f64 (nanv w x)) w.drew := by
  have := sub_self_not x h
  simp [binOp, Op.floatArith, FloatKind.format, this]
  rw [if_neg (by simp [Question.forced])]; rfl
theorem nan_ne_zero (x : Nat) (h : infR < x % 9223372036854775808) : (FloatKind.f64.format.order x 0 != some .eq) = true := by
  show (Ieee.double.order x 0 != some .eq) = true
  rw [order_nan_left x 0 h]; rfl
theorem zero_eq_zero : (FloatKind.f64.format.order 0 0 != some .eq) = false := by decide +kernel

end Go.Inc
