/- Parts of this proof, one behind the other: Guess, Floor, Clamp, Pred, Off, Levels, Build, Chk. -/
import Derived.Laws.Externs
import Derived.Deep.RegionHeld3
import Derived.Laws.MakeOwn
import Derived.Defers
import Derived.Recover
import Derived.Test.YthjimnmgbcckjaaGreatQE
namespace Go.Proofs.YthjimnmgbcckjaaGreat
set_option maxRecDepth 100000
open Go.RowKit Go.Inc Go.Run

theorem finite_calls (x : Nat) (hx : x < 18446744073709551616) (w : World) : Calls Tryz.prog 125 #[.float .f64 x] w fun e w' => e = .returned (.bool (decide (Flo.fin x))) ∧ w = w' := by
  by_cases hn : x % 9223372036854775808 ≤ 9218868437227405312
  · have IN := isNaN_calls x
    have z2 : (!decide (x % 9223372036854775808 ≤ Go.Inc.infR)) = false := by rw [decide_eq_true (by unfold Go.Inc.infR; exact hn)]; rfl
    rw [z2] at IN
    have II := isInf_calls x hx hn
    have hpost : Hid ((!decide (x % 9223372036854775808 = Go.Inc.infR)) = decide (Flo.fin x)) := by
      rw [Hid]
      by_cases h : x % 9223372036854775808 = 9218868437227405312
      · rw [decide_eq_true (p := x % 9223372036854775808 = Go.Inc.infR) h, decide_eq_false (p := Flo.fin x) (by unfold Flo.fin; omega)]; rfl
      · rw [decide_eq_false (p := x % 9223372036854775808 = Go.Inc.infR) h, decide_eq_true (p := Flo.fin x) (by unfold Flo.fin; omega)]; rfl
    obtain ⟨bb, hbb⟩ : ∃ b, decide (x % 9223372036854775808 = Go.Inc.infR) = b := ⟨_, rfl⟩
    rw [hbb] at II hpost
    clear z2 hn hbb hx
    go_enter Tryz.func125, Tryz.ntmps125
    go_wp2_with (first | (go_at_call 106; refine (II _).mono ?_; rintro e w' ⟨rfl, rfl⟩) | (go_at_call 105; refine (IN _).mono ?_; rintro e w' ⟨rfl, rfl⟩))
    go_ret
    exact ⟨by rw [← hpost.out]; rfl, rfl⟩
  · have IN := isNaN_calls x
    have z2 : (!decide (x % 9223372036854775808 ≤ Go.Inc.infR)) = true := by rw [decide_eq_false (by unfold Go.Inc.infR; exact hn)]; rfl
    rw [z2] at IN
    have hpost : Hid (decide (Flo.fin x) = false) := decide_eq_false (by unfold Flo.fin; omega)
    clear z2 hn hx
    go_enter Tryz.func125, Tryz.ntmps125
    go_wp2_with (go_at_call 105; refine (IN _).mono ?_; rintro e w' ⟨rfl, rfl⟩)
    go_ret
    exact ⟨by rw [hpost.out]; rfl, rfl⟩
theorem signbit_calls (x : Nat) (hx : x < 18446744073709551616) (w : World) : Calls Tryz.prog 126 #[.float .f64 x] w fun e w' => e = .returned (.bool (decide (9223372036854775808 ≤ x))) ∧ w = w' := by
  have htb := tobits_run
  have h1 : decide (wrap64 (x : Int) < 0) = decide (9223372036854775808 ≤ x) := by
    unfold wrap64
    by_cases h : 9223372036854775808 ≤ x
    · rw [decide_eq_true h, decide_eq_true (by omega)]
    · rw [decide_eq_false h, decide_eq_false (by omega)]
  have H1 := Lib.hid h1
  clear h1
  go_enter Tryz.func126, Tryz.ntmps126
  go_wp2_with fail
  go_ret
  refine ⟨?_, rfl⟩
  rw [← H1.out]; first | rfl | simp

/-- What is wrong with a segment. -/
def chk (s : Seg) : Int := if s.frm < 0 ∨ s.upto ≤ s.frm ∨ s.upto > 4294967296 then 70 else if ¬ s.slope ≤ 4611686018427387904 then 71 else if ¬ Flo.fin s.inter then 72 else 0
/-- The words of a segment. -/
def SegW (s : Seg) : Prop := s.slope < 18446744073709551616 ∧ s.inter < 18446744073709551616
theorem gt2 {x : Nat} (hx : x < 9223372036854775808) (hf : Flo.fin x) : (FloatKind.f64.format.order x 4611686018427387904 == some .gt) = decide (¬ x ≤ 4611686018427387904) := by
  show (Ieee.double.order x 4611686018427387904 == some .gt) = _
  unfold Flo.fin at hf
  rw [order_pos (by omega) (by omega)]
  by_cases h : x ≤ 4611686018427387904
  · rw [decide_eq_false (fun h2 => h2 h)]
    have : compare x 4611686018427387904 ≠ .gt := fun h2 => by have := Nat.compare_eq_gt.1 h2; omega
    simpa using this
  · rw [decide_eq_true h, Nat.compare_eq_gt.2 (by omega)]
    decide

set_option maxHeartbeats 1000000 in
theorem mcheck_calls (s : Seg) (hs : SegW s) (w : World) : Calls Tryz.prog 108 #[segVal s] w fun e w' => e = .returned (.int .i64 (chk s)) ∧ Fr w w' := by
  obtain ⟨s1, s2⟩ := hs
  obtain ⟨sf, sl, it, fr, up⟩ := s
  dsimp only at s1 s2
  have hb := heap_alloc_new w (.cells #[.int .u64 sf, .float .f64 sl, .float .f64 it, .int .i64 fr, .int .i64 up] 65)
  obtain ⟨x0, x1, x2, x3, x4⟩ := cells5 hb
  have SB := fun w => signbit_calls sl s1 w
  have HFR := Lib.hid ((Fr.refl w).alloc (.cells #[.int .u64 sf, .float .f64 sl, .float .f64 it, .int .i64 fr, .int .i64 up] 65))
  clear hb
  unfold segVal
  dsimp only
  by_cases c1 : fr < 0
  · have hp : Hid (chk ⟨sf, sl, it, fr, up⟩ = 70) := by rw [Hid]; unfold chk; dsimp only; rw [if_pos (.inl c1)]
    have d1 : decide (fr < 0) = true := decide_eq_true c1
    clear s1 s2
    go_enter Tryz.func108, Tryz.ntmps108
    go_wp2_with fail
    go_ret
    exact ⟨by rw [hp.out]; rfl, HFR.out⟩
  · have d1 : decide (fr < 0) = false := decide_eq_false c1
    by_cases c2 : up ≤ fr
    · have hp : Hid (chk ⟨sf, sl, it, fr, up⟩ = 70) := by rw [Hid]; unfold chk; dsimp only; rw [if_pos (.inr (.inl c2))]
      have d2 : decide (up ≤ fr) = true := decide_eq_true c2
      clear s1 s2
      go_enter Tryz.func108, Tryz.ntmps108
      go_wp2_with fail
      go_ret
      exact ⟨by rw [hp.out]; rfl, HFR.out⟩
    · have d2 : decide (up ≤ fr) = false := decide_eq_false c2
      by_cases c3 : up > 4294967296
      · have hp : Hid (chk ⟨sf, sl, it, fr, up⟩ = 70) := by rw [Hid]; unfold chk; dsimp only; rw [if_pos (.inr (.inr c3))]
        have d3 : decide (up > 4294967296) = true := decide_eq_true c3
        clear s1 s2
        go_enter Tryz.func108, Tryz.ntmps108
        go_wp2_with fail
        go_ret
        exact ⟨by rw [hp.out]; rfl, HFR.out⟩
      · have d3 : decide (up > 4294967296) = false := decide_eq_false c3
        have hp : Hid (chk ⟨sf, sl, it, fr, up⟩ = if ¬ sl ≤ 4611686018427387904 then 71 else if ¬ Flo.fin it then 72 else 0) := by
          rw [Hid]; unfold chk; dsimp only; rw [if_neg (by rintro (h | h | h) <;> omega)]
        by_cases c4 : Flo.fin sl
        · have d4 : decide (Flo.fin sl) = true := decide_eq_true c4
          by_cases c5 : 9223372036854775808 ≤ sl
          · have d5 : decide (9223372036854775808 ≤ sl) = true := decide_eq_true c5
            rw [d5] at SB
            have hp2 : Hid (chk ⟨sf, sl, it, fr, up⟩ = 71) := by rw [Hid, hp.out, if_pos (by omega)]
            clear c1 c2 c3 c4 c5 d5
            go_enter Tryz.func108, Tryz.ntmps108
            go_wp2_with (first | (go_at_call 125; refine (finite_calls _ (by assumption) _).mono ?_; rintro e w' ⟨rfl, rfl⟩) | (go_at_call 126; refine (SB _).mono ?_; rintro e w' ⟨rfl, rfl⟩))
            go_ret
            exact ⟨by rw [hp2.out]; rfl, HFR.out⟩
          · have d5 : decide (9223372036854775808 ≤ sl) = false := decide_eq_false c5
            rw [d5] at SB
            have g2 := gt2 (x := sl) (by omega) c4
            by_cases c6 : sl ≤ 4611686018427387904
            · rw [decide_eq_false (fun h => h c6)] at g2
              by_cases c7 : Flo.fin it
              · have d7 : decide (Flo.fin it) = true := decide_eq_true c7
                have hp2 : Hid (chk ⟨sf, sl, it, fr, up⟩ = 0) := by rw [Hid, hp.out, if_neg (fun h => h c6), if_neg (fun h => h c7)]
                clear c1 c2 c3 c4 c5 c6 c7 d5
                go_enter Tryz.func108, Tryz.ntmps108
                go_wp2_with (first | (go_at_call 125; refine (finite_calls _ (by assumption) _).mono ?_; rintro e w' ⟨rfl, rfl⟩) | (go_at_call 126; refine (SB _).mono ?_; rintro e w' ⟨rfl, rfl⟩))
                go_ret
                exact ⟨by rw [hp2.out]; rfl, HFR.out⟩
              · have d7 : decide (Flo.fin it) = false := decide_eq_false c7
                have hp2 : Hid (chk ⟨sf, sl, it, fr, up⟩ = 72) := by rw [Hid, hp.out, if_neg (fun h => h c6), if_pos c7]
                clear c1 c2 c3 c4 c5 c6 c7 d5
                go_enter Tryz.func108, Tryz.ntmps108
                go_wp2_with (first | (go_at_call 125; refine (finite_calls _ (by assumption) _).mono ?_; rintro e w' ⟨rfl, rfl⟩) | (go_at_call 126; refine (SB _).mono ?_; rintro e w' ⟨rfl, rfl⟩))
                go_ret
                exact ⟨by rw [hp2.out]; rfl, HFR.out⟩
            · rw [decide_eq_true c6] at g2
              have hp2 : Hid (chk ⟨sf, sl, it, fr, up⟩ = 71) := by rw [Hid, hp.out, if_pos c6]
              clear c1 c2 c3 c4 c5 c6 d5
              go_enter Tryz.func108, Tryz.ntmps108
              go_wp2_with (first | (go_at_call 125; refine (finite_calls _ (by assumption) _).mono ?_; rintro e w' ⟨rfl, rfl⟩) | (go_at_call 126; refine (SB _).mono ?_; rintro e w' ⟨rfl, rfl⟩))
              go_ret
              exact ⟨by rw [hp2.out]; rfl, HFR.out⟩
        · have d4 : decide (Flo.fin sl) = false := decide_eq_false c4
          have hp2 : Hid (chk ⟨sf, sl, it, fr, up⟩ = 71) := by rw [Hid, hp.out, if_pos (fun h => c4 (by unfold Flo.fin; omega))]
          clear c1 c2 c3 c4
          go_enter Tryz.func108, Tryz.ntmps108
          go_wp2_with (go_at_call 125; refine (finite_calls _ (by assumption) _).mono ?_; rintro e w' ⟨rfl, rfl⟩)
          go_ret
          exact ⟨by rw [hp2.out]; rfl, HFR.out⟩
end Go.Proofs.YthjimnmgbcckjaaGreat
namespace Go.Flo

theorem gap_eq (N d : Nat) : N / 2 ^ min d (N.log2 + 2) = N / 2 ^ d := by
  rcases Nat.le_total d (N.log2 + 2) with h | h
  · rw [Nat.min_eq_left h]
  · rw [Nat.min_eq_right h]
    have hlt : N < 2 ^ (N.log2 + 1) := Nat.lt_log2_self
    have h1 : 2 ^ (N.log2 + 1) ≤ 2 ^ (N.log2 + 2) := Nat.pow_le_pow_right (by decide) (by omega)
    have h2 : 2 ^ (N.log2 + 2) ≤ 2 ^ d := Nat.pow_le_pow_right (by decide) h
    rw [Nat.div_eq_of_lt (by omega), Nat.div_eq_of_lt (by omega)]
set_option exponentiation.threshold 4000 in
theorem quot_eq {m : Nat} {p : Int} {X : Nat} (hp : -1074 ≤ p) (hX : m * 2 ^ (p + 1074).toNat = X) : m * 2 ^ p.toNat / 2 ^ (-p).toNat = X / U := by
  have hD : 0 < 2 ^ (-p).toNat := Nat.two_pow_pos _
  have e1 : X * 2 ^ (-p).toNat = m * 2 ^ p.toNat * U := by
    unfold U
    rw [← hX, Nat.mul_assoc, Nat.mul_assoc, ← Nat.pow_add, ← Nat.pow_add]
    congr 2; omega
  have hK := U_pos
  generalize U = K at *
  generalize m * 2 ^ p.toNat = N at *
  generalize 2 ^ (-p).toNat = D at *
  apply Nat.le_antisymm
  · rw [Nat.le_div_iff_mul_le hK]
    have h1 : N / D * D ≤ N := Nat.div_mul_le_self _ _
    have h2 : N / D * D * K ≤ N * K := Nat.mul_le_mul_right _ h1
    rw [← e1] at h2
    have h3 : N / D * K * D ≤ X * D := by rw [Nat.mul_assoc, Nat.mul_comm K D, ← Nat.mul_assoc]; exact h2
    exact Nat.le_of_mul_le_mul_right h3 hD
  · rw [Nat.le_div_iff_mul_le hD]
    have h1 : X / K * K ≤ X := Nat.div_mul_le_self _ _
    have h2 : X / K * K * D ≤ X * D := Nat.mul_le_mul_right _ h1
    rw [e1] at h2
    have h3 : X / K * D * K ≤ N * K := by rw [Nat.mul_assoc, Nat.mul_comm D K, ← Nat.mul_assoc]; exact h2
    exact Nat.le_of_mul_le_mul_right h3 hK
/-- A finite float cut towards zero. -/
theorem toInt_zero {x : Nat} (h : fin x) : (Ieee.double.read x).toInt .zero = some ((sv x).tdiv (U : Int)) := by
  obtain ⟨m, p, hr, hp, _, hm, _⟩ := read_fin h
  rw [hr]
  unfold Ieee.Datum.toInt Ieee.Datum.integral Ieee.Toward.cut
  simp only [Nat.shiftLeft_eq, Nat.one_mul, Bool.toNat_false, Nat.add_zero]
  rw [gap_eq, quot_eq hp hm, signed_eq, sv_bool, Nat.pow_zero, Nat.mul_one]
  congr 1
  split
  · rw [Int.neg_tdiv]; rfl
  · rfl

set_option exponentiation.threshold 4000 in
theorem int_exact {m : Nat} (h : m ≤ 4503599627370496) : rv (rnd (m * U) 0) = m * U := by
  have hle : rndU (m * U) 0 ≤ 9218868437227405312 := by
    have h1 : m * U ≤ rv 9218868437227405312 * 2 ^ 0 := by
      rw [Nat.pow_zero, Nat.mul_one]
      have h2 : U * 4503599627370496 ≤ U * 2 ^ 100 := Nat.mul_le_mul_left _ (by decide)
      have h3 : m * U ≤ 4503599627370496 * U := Nat.mul_le_mul_right _ h
      have h4 := rv_inf_ge
      have e : 4503599627370496 * U = U * 4503599627370496 := Nat.mul_comm _ _
      omega
    have := rndU_mono (q := 0) h1
    rwa [rndU_rv] at this
  have e1 : rnd (m * U) 0 = rndU (m * U) 0 := by unfold rnd; omega
  rw [e1]
  by_cases h0 : m = 0
  · subst h0; rw [Nat.zero_mul]; rfl
  have h1 := rv_rndU (m * U) 0
  rw [Nat.pow_zero, Nat.mul_one] at h1
  rw [h1]
  have hlog : (m * U).log2 = m.log2 + 1074 := log2_mul_pow h0 1074
  have hl : m.log2 ≤ 52 := by
    have h2 := log2_mono h h0
    have h3 : (4503599627370496 : Nat).log2 = 52 := by decide +kernel
    omega
  obtain ⟨d, hd⟩ : ∃ d, max ((m * U).log2 - 52) 0 = d := ⟨_, rfl⟩
  rw [hlog] at hd
  have hd2 : d ≤ 1074 := by clear h1 hle e1 hlog; omega
  rw [hlog, hd]
  have e2 : m * U = (m * 2 ^ (1074 - d)) * 2 ^ d := by unfold U; rw [Nat.mul_assoc, ← Nat.pow_add, Nat.sub_add_cancel hd2]
  rw [e2, rne_exact]
set_option exponentiation.threshold 4000 in
/-- What is not whole is small. -/
theorem whole_or_small (r : Nat) : U ∣ rv r ∨ rv r < 4503599627370496 * U := by
  unfold rv
  by_cases h : r < 4503599627370496
  · right
    rw [if_pos h]
    have := U_pos
    have h2 : 4503599627370496 * 1 ≤ 4503599627370496 * U := Nat.mul_le_mul_left _ this
    omega
  · rw [if_neg h]
    rcases Nat.lt_or_ge (r / 4503599627370496 - 1) 1074 with h1 | h1
    · right
      have hm := Nat.mod_lt r (show 0 < 4503599627370496 by decide)
      have h2 : 2 ^ (r / 4503599627370496 - 1) ≤ 2 ^ 1073 := Nat.pow_le_pow_right (by decide) (by omega)
      have e : U = 2 * 2 ^ 1073 := by unfold U; rw [Nat.pow_succ 2 1073, Nat.mul_comm]
      have hp : 0 < 2 ^ 1073 := Nat.two_pow_pos _
      rw [e]
      generalize 2 ^ 1073 = Q at *
      have h3 : (4503599627370496 + r % 4503599627370496) * 2 ^ (r / 4503599627370496 - 1) ≤ (4503599627370496 + r % 4503599627370496) * Q := Nat.mul_le_mul_left _ h2
      have h4 : (4503599627370496 + r % 4503599627370496) * Q < 9007199254740992 * Q := Nat.mul_lt_mul_of_pos_right (by omega) hp
      have e2 : 4503599627370496 * (2 * Q) = 9007199254740992 * Q := by rw [← Nat.mul_assoc]
      omega
    · left
      refine Nat.dvd_trans ?_ (Nat.dvd_mul_left _ _)
      exact Nat.pow_dvd_pow 2 h1
set_option exponentiation.threshold 4000 in
/-- The floor of a finite float, as a float. -/
theorem floor_word {x : Nat} (h : fin x) : ∃ W, Ieee.double.write ((Ieee.double.read x).integral .down) = W ∧ W < 2 * 9223372036854775808 ∧ num W ∧ sv W = sv x / (U : Int) * (U : Int) := by
  obtain ⟨s, m, hi, hv⟩ := floor_fin h
  rw [hi]
  show ∃ W, Ieee.double.nearest s m 0 = W ∧ _
  rw [nearest_eq _ _ _ 0 (by decide)]
  have e0 : ((0 : Int) + 1074 + (0 : Nat)).toNat = 1074 := rfl
  rw [e0]
  refine ⟨_, rfl, wd_lt _ _ _, num_wd _ _ _, ?_⟩
  have hlt : rnd (m * 2 ^ 1074) 0 < 9223372036854775808 := Nat.lt_of_le_of_lt (rnd_le _ _) (by decide)
  rw [sv_wd _ hlt]
  have hU : 0 < U := U_pos
  -- the exact value
  have key : rv (rnd (m * U) 0) = m * U := by
    rcases whole_or_small (x % 9223372036854775808) with hw | hw
    · obtain ⟨c, hc⟩ := hw
      have hm : m = c := by
        rw [sv_bool, hc] at hv
        have e1 : ((U * c : Nat) : Int) = (c : Int) * (U : Int) := by rw [Nat.mul_comm]; exact Int.natCast_mul _ _
        have e2 : -((U * c : Nat) : Int) = (-(c : Int)) * (U : Int) := by rw [e1, Int.neg_mul]
        by_cases hb : (x / 9223372036854775808 % 2 == 1) = true
        · rw [if_pos hb, e2, Int.mul_ediv_cancel _ (by omega)] at hv
          split at hv <;> omega
        · rw [if_neg hb, e1, Int.mul_ediv_cancel _ (by omega)] at hv
          split at hv <;> omega
      subst hm
      have e3 : m * U = rv (x % 9223372036854775808) * 2 ^ 0 := by rw [hc, Nat.pow_zero, Nat.mul_one, Nat.mul_comm]
      rw [e3]
      unfold fin at h
      unfold rnd
      rw [rndU_rv, Nat.min_eq_left (Nat.le_of_lt h), Nat.pow_zero, Nat.mul_one]
    · apply int_exact
      rw [sv_bool] at hv
      have hUi : (0 : Int) < (U : Int) := by omega
      clear hlt
      generalize rv (x % 9223372036854775808) = X at *
      generalize U = K at *
      have b1 : (X : Int) < 4503599627370496 * (K : Int) := by omega
      have c1 : (X : Int) / K < 4503599627370496 := (Int.ediv_lt_iff_lt_mul hUi).2 b1
      have c2 : 0 ≤ (X : Int) / K := Int.ediv_nonneg (by omega) (by omega)
      have c3 : -4503599627370496 ≤ -(X : Int) / K := (Int.le_ediv_iff_mul_le hUi).2 (by omega)
      have c4 : -(X : Int) / K ≤ 0 := by
        have := (Int.ediv_lt_iff_lt_mul (a := -(X : Int)) (b := 1) hUi).2 (by omega)
        omega
      split at hv <;> split at hv <;> omega
  have e4 : rv (rnd (m * 2 ^ 1074) 0) = m * U := key
  rw [e4, ← hv]
  split
  · rw [Int.neg_mul, Int.natCast_mul]
  · rw [Int.natCast_mul]
end Go.Flo
namespace Go.Flo
set_option exponentiation.threshold 4000 in
theorem rv_pow (j : Nat) : rv ((1074 + j - 52) * 4503599627370496 + 4503599627370496) = U * 2 ^ j := by
  rw [rv_of _ _ (by decide) (.inr (by decide))]
  unfold U
  rw [show 4503599627370496 = 2 ^ 52 by decide, ← Nat.pow_add, ← Nat.pow_add]
  congr 1
  omega
theorem U_eq : 2 ^ 1074 = U := by unfold U; rfl
theorem srv_bound {E : Int} {q j : Nat} (hj : j ≤ 900) (h : E ≤ ((U * 2 ^ j * 2 ^ q : Nat) : Int)) : srv E q ≤ ((U * 2 ^ j : Nat) : Int) := by
  have h1 := srv_mono (q := q) h
  refine Int.le_trans h1 ?_
  unfold srv
  rw [if_neg (by omega), Int.natAbs_natCast]
  have hr := rv_pow j
  unfold rnd
  rw [← hr, rndU_rv, Nat.min_eq_left (by omega)]
  exact Int.le_refl _
theorem fin_of_sv {x : Nat} (h : num x) (h1 : -(rv 9218868437227405312 : Int) < sv x) (h2 : sv x < (rv 9218868437227405312 : Int)) : fin x := by
  unfold num at h
  unfold fin
  rcases Nat.lt_or_ge (x % 9223372036854775808) 9218868437227405312 with h3 | h3
  · exact h3
  · have e : x % 9223372036854775808 = 9218868437227405312 := by omega
    rw [sv_bool, e] at h1 h2
    by_cases hb : (x / 9223372036854775808 % 2 == 1) = true
    · rw [if_pos hb] at h1
      exact absurd h1 (Int.lt_irrefl _)
    · rw [if_neg hb] at h2
      exact absurd h2 (Int.lt_irrefl _)
theorem inf_big (j : Nat) (hj : j ≤ 99) : U * 2 ^ j < rv 9218868437227405312 := by
  have h1 := rv_inf_ge
  have h2 : 2 ^ j < 2 ^ 100 := Nat.pow_lt_pow_right (by decide) (by omega)
  exact Nat.lt_of_lt_of_le (Nat.mul_lt_mul_of_pos_left h2 U_pos) h1
theorem sv_small {x : Nat} (h : x < 9223372036854775808) : sv x = (rv x : Int) := by
  unfold sv
  rw [Nat.div_eq_of_lt h, Nat.mod_eq_of_lt h, if_neg (by decide)]
/-- The word of Along. -/
def alongW (s : Nat) (far : Int) (inter : Nat) : Nat := ((Ieee.double.mul s (Ieee.double.nearest (far < 0) far.natAbs 0)).bind (fun p => Ieee.double.add p inter)).getD 0
theorem along_word {s inter : Nat} {far : Int} (hs : s ≤ 4611686018427387904) (hi : fin inter) (h0 : 0 ≤ far) (h1 : far < 18446744073709551616) :
    ∃ p, Ieee.double.mul s (Ieee.double.nearest (far < 0) far.natAbs 0) = some p ∧ Ieee.double.add p inter = some (alongW s far inter) ∧ num (alongW s far inter) ∧ sv (alongW s far inter) = alongV s inter far ∧ alongW s far inter < 2 * 9223372036854775808 := by
  obtain ⟨f1, f2, f3⟩ := int_near far
  have hU := U_pos
  have hsf : fin s := by unfold fin; omega
  -- far's float
  have hF0 : 0 ≤ far * (U : Int) := Int.mul_nonneg h0 (by omega)
  have hF : sv (Ieee.double.nearest (far < 0) far.natAbs 0) ≤ ((U * 2 ^ 64 : Nat) : Int) := by
    rw [f2]
    refine srv_bound (by decide) ?_
    rw [Nat.pow_zero, Nat.mul_one, Int.natCast_mul]
    have : far * (U : Int) ≤ 18446744073709551616 * (U : Int) := Int.mul_le_mul_of_nonneg_right (by omega) (by omega)
    have e : ((2 ^ 64 : Nat) : Int) = 18446744073709551616 := rfl
    rw [e, Int.mul_comm (U : Int)]; exact this
  have hFn : 0 ≤ sv (Ieee.double.nearest (far < 0) far.natAbs 0) := by rw [f2]; exact srv_nonneg hF0
  have hFf : fin (Ieee.double.nearest (far < 0) far.natAbs 0) := fin_of_sv f1 (by have := inf_big 0 (by decide); omega) (by have := inf_big 64 (by decide); omega)
  -- the product
  obtain ⟨p, m1, m2, m3, m4⟩ := mul_fin hsf hFf
  have ha0 : 0 ≤ sv s := by rw [sv_small (by omega)]; omega
  have ha : sv s ≤ ((U * 2 ^ 1 : Nat) : Int) := by
    rw [sv_small (by omega)]
    have h2 := rv_le hs
    have h3 := rv_pow 1
    rw [show (1074 + 1 - 52) * 4503599627370496 + 4503599627370496 = 4611686018427387904 by decide] at h3
    rw [h3] at h2
    exact Int.ofNat_le.2 h2
  have hE0 : 0 ≤ sv s * sv (Ieee.double.nearest (far < 0) far.natAbs 0) := Int.mul_nonneg ha0 hFn
  have hp : sv p ≤ ((U * 2 ^ 65 : Nat) : Int) := by
    rw [m3]
    refine srv_bound (by decide) ?_
    have h5 : sv s * sv (Ieee.double.nearest (far < 0) far.natAbs 0) ≤ ((U * 2 ^ 1 : Nat) : Int) * ((U * 2 ^ 64 : Nat) : Int) := by
      have h6 := Int.mul_le_mul_of_nonneg_right ha hFn
      have h7 := Int.mul_le_mul_of_nonneg_left hF (show 0 ≤ ((U * 2 ^ 1 : Nat) : Int) by omega)
      omega
    refine Int.le_trans h5 ?_
    rw [← Int.natCast_mul]
    refine Int.ofNat_le.2 (Nat.le_of_eq ?_)
    have e : ∀ K Q : Nat, K * 2 ^ 1 * (K * Q) = K * (2 ^ 1 * Q) * K := fun K Q => by grind
    have e2 : 2 ^ 65 = 2 ^ 1 * 2 ^ 64 := Nat.pow_add 2 1 64
    rw [e2, U_eq]
    exact e U (2 ^ 64)
  have hp0 : 0 ≤ sv p := by rw [m3]; exact srv_nonneg hE0
  have hpf : fin p := fin_of_sv m2 (by have := inf_big 0 (by decide); omega) (by have := inf_big 65 (by decide); omega)
  obtain ⟨r, a1, a2, a3, a4⟩ := add_fin hpf hi
  have hw : alongW s far inter = r := by unfold alongW; rw [m1, Option.bind_some, a1]; rfl
  refine ⟨p, m1, by rw [hw]; exact a1, by rw [hw]; exact a2, ?_, by rw [hw]; exact a4⟩
  rw [hw, a3, m3, f2]
  rfl
/-- What is clamped. -/
def clampV (v lo hi : Int) : Int := max lo (min hi (v / (U : Int)))
end Go.Flo
namespace Go.Proofs.YthjimnmgbcckjaaGreat
set_option maxRecDepth 100000
open Go.RowKit Go.Inc Go.Run

theorem along2_calls (s inter : Nat) (far : Int) (hs : s ≤ 4611686018427387904) (hi : Flo.fin inter) (h0 : 0 ≤ far) (h1 : far < 18446744073709551616) (w : World) :
    Calls Tryz.prog 110 #[.float .f64 s, .int .u64 far, .float .f64 inter] w fun e w' => e = .returned (.float .f64 (Flo.alongW s far inter)) ∧ w' = w := by
  obtain ⟨p, m1, a1, _⟩ := Flo.along_word hs hi h0 h1
  obtain ⟨Fw, hFw⟩ : ∃ F, floatOfInt .f64 far = F := ⟨_, rfl⟩
  have e1 : Ieee.double.mul s Fw = some p := by rw [← hFw]; exact m1
  obtain ⟨R, hR⟩ : ∃ R, Flo.alongW s far inter = R := ⟨_, rfl⟩
  rw [hR] at a1 ⊢
  have wm := fun w => run_float_arith (P := Tryz.prog) w .mul 63 .f64 s Fw p e1
  have wa := fun w => run_float_arith (P := Tryz.prog) w .add 63 .f64 p inter R a1
  clear m1 a1 e1 hR hs hi h0 h1
  go_enter Tryz.func110, Tryz.ntmps110
  go_wp2_with fail
  go_ret
  exact ⟨rfl, rfl⟩
theorem archFloor_run (x : Nat) (h : Flo.num x) (w : World) : (callFunc 137 #[.float .f64 x]).run Tryz.prog w = .ok (.value (.float .f64 (FloatKind.f64.encode ((FloatKind.f64.decode x).integral .down)))) w := by
  have e := run_callFunc_extern (P := Tryz.prog) (f := 137) (fn := Tryz.f137) (e := Extern.MathFloor.toIntegral "math.archFloor" .down) Tryz.func137 (by kernel_rfl) (by kernel_rfl) (by kernel_rfl) (by kernel_rfl) #[.float .f64 x] w
  rw [e]
  have hd : ∀ s t, FloatKind.f64.decode x ≠ .nan s t := by
    intro s t hh
    have hh : Ieee.double.read x = .nan s t := hh
    unfold Flo.num at h
    rcases Nat.lt_or_ge (x % 9223372036854775808) 9218868437227405312 with h1 | h1
    · obtain ⟨m, p, hr, _⟩ := Flo.read_fin (x := x) h1
      rw [hr] at hh; cases hh
    · have h2 : x % 9223372036854775808 = 9218868437227405312 := by omega
      rw [Flo.read_inf h2] at hh; cases hh
  show ((match FloatKind.f64.decode x with
    | .nan s t => if FloatKind.f64.format.quiet t = t then pure (.float .f64 x) else do
      let kept ← choose (.extern "math.Floor,Ceil,Trunc,RoundToEven.signallingNaN kept" 2)
      pure (.float .f64 (if kept == 1 then x else FloatKind.f64.encode (.nan s (FloatKind.f64.format.quiet t))))
    | d => pure (.float .f64 (FloatKind.f64.encode (d.integral .down))) : Sem Value).run Tryz.prog w).andThen _ = _
  cases hc : FloatKind.f64.decode x with
  | nan s t => exact absurd hc (hd s t)
  | infinity s => rfl
  | number s m p => rfl
theorem floor_calls (x : Nat) (h : Flo.fin x) (w : World) : Calls Tryz.prog 127 #[.float .f64 x] w fun e w' => ∃ W, e = .returned (.float .f64 W) ∧ W < 18446744073709551616 ∧ Flo.num W ∧ Flo.sv W = Flo.sv x / (Flo.U : Int) * (Flo.U : Int) ∧ w' = w := by
  obtain ⟨W, h1, h2, h3, h4⟩ := Flo.floor_word h
  have hr := archFloor_run x h.num
  have e : FloatKind.f64.encode ((FloatKind.f64.decode x).integral .down) = W := h1
  rw [e] at hr
  have HP := Lib.hid (And.intro h2 (And.intro h3 h4))
  clear e h1 h2 h3 h4 h
  go_enter Tryz.func127, Tryz.ntmps127
  go_wp2_with fail
  go_ret
  exact ⟨W, rfl, HP.out.1, HP.out.2.1, HP.out.2.2, rfl⟩
theorem rv_63 : Flo.rv 4890909195324358656 = Flo.U * 2 ^ 63 := by
  have h := Flo.rv_pow 63
  rw [show (1074 + 63 - 52) * 4503599627370496 + 4503599627370496 = 4890909195324358656 by decide] at h
  exact h
theorem sv_63 : Flo.sv 4890909195324358656 = 9223372036854775808 * (Flo.U : Int) := by
  rw [Flo.sv_small (by decide), rv_63, Int.natCast_mul, Int.mul_comm]; rfl
theorem sv_m63 : Flo.sv 14114281232179134464 = -(9223372036854775808 * (Flo.U : Int)) := by
  have e1 : 14114281232179134464 % 9223372036854775808 = 4890909195324358656 := by decide
  have e2 : (14114281232179134464 / 9223372036854775808 % 2 == 1) = true := by decide
  rw [Flo.sv_bool, e1, e2, if_pos rfl, rv_63, Int.natCast_mul, Int.mul_comm]; rfl
theorem min_pick (a b : Int) : (if a < b then a else b) = min a b := by split <;> omega

set_option maxHeartbeats 2000000 in
theorem clamp_calls (x : Nat) (lo hi : Int) (_hx : x < 18446744073709551616) (hn : Flo.num x) (h1 : lo ≤ hi) (h2 : 0 ≤ lo) (h3 : hi ≤ 4611686018427387904) (w : World) :
    Calls Tryz.prog 109 #[.float .f64 x, .int .i64 lo, .int .i64 hi] w fun e w' => e = .returned (.int .i64 (Flo.clampV (Flo.sv x) lo hi)) ∧ w' = w := by
  have hU : (0 : Int) < (Flo.U : Int) := by have := Flo.U_pos; omega
  have IN := isNaN_calls x
  have z2 : (!decide (x % 9223372036854775808 ≤ Go.Inc.infR)) = false := by rw [decide_eq_true (by unfold Go.Inc.infR; exact hn)]; rfl
  rw [z2] at IN
  have o1 : FloatKind.f64.format.order x 14114281232179134464 = some (compare (Flo.sv x) (-(9223372036854775808 * (Flo.U : Int)))) := by
    show Ieee.double.order x 14114281232179134464 = _
    rw [Flo.order_num hn (by unfold Flo.num; decide), sv_m63]
  have o2 : FloatKind.f64.format.order x 4890909195324358656 = some (compare (Flo.sv x) (9223372036854775808 * (Flo.U : Int))) := by
    show Ieee.double.order x 4890909195324358656 = _
    rw [Flo.order_num hn (by unfold Flo.num; decide), sv_63]
  have d0 : decide (hi < lo) = false := decide_eq_false (by omega)
  have hinf : 9223372036854775808 * (Flo.U : Int) < (Flo.rv 9218868437227405312 : Int) := by
    have h := Flo.inf_big 63 (by decide)
    have e : ((Flo.U * 2 ^ 63 : Nat) : Int) = 9223372036854775808 * (Flo.U : Int) := by rw [Int.natCast_mul, Int.mul_comm]; rfl
    rw [← e]
    exact Int.ofNat_lt.2 h
  obtain ⟨v, hv⟩ : ∃ v, Flo.sv x = v := ⟨_, rfl⟩
  rw [hv] at o1 o2
  by_cases c1 : v < -(9223372036854775808 * (Flo.U : Int))
  · have f1 : (FloatKind.f64.format.order x 14114281232179134464 == some .lt) = true := by rw [o1, Int.compare_eq_lt.2 c1]; rfl
    have hp : Hid (Flo.clampV (Flo.sv x) lo hi = lo) := by
      rw [Hid, hv]; unfold Flo.clampV
      have := (Int.ediv_lt_iff_lt_mul (b := -9223372036854775808) hU).2 (by rw [Int.neg_mul]; exact c1)
      omega
    clear o1 o2 hinf hv z2 c1 hU
    go_enter Tryz.func109, Tryz.ntmps109
    go_wp2_with (go_at_call 105; refine (IN _).mono ?_; rintro e w' ⟨rfl, rfl⟩)
    go_ret
    exact ⟨by rw [hp.out]; rfl, rfl⟩
  · have f1 : (FloatKind.f64.format.order x 14114281232179134464 == some .lt) = false := by
      rw [o1]
      have : compare v (-(9223372036854775808 * (Flo.U : Int))) ≠ .lt := fun h => c1 (Int.compare_eq_lt.1 h)
      simpa using this
    by_cases c2 : 9223372036854775808 * (Flo.U : Int) ≤ v
    · have f2 : (FloatKind.f64.format.order x 4890909195324358656 == some .gt || FloatKind.f64.format.order x 4890909195324358656 == some .eq) = true := by
        rw [o2]
        rcases Int.lt_or_le (9223372036854775808 * (Flo.U : Int)) v with h | h
        · rw [Int.compare_eq_gt.2 h]; rfl
        · rw [Int.compare_eq_eq.2 (Int.le_antisymm h c2)]; rfl
      have hp : Hid (Flo.clampV (Flo.sv x) lo hi = hi) := by
        rw [Hid, hv]; unfold Flo.clampV
        have := (Int.le_ediv_iff_mul_le (b := v) (a := 9223372036854775808) hU).2 c2
        omega
      clear o1 o2 hinf hv z2 c1 c2 hU
      go_enter Tryz.func109, Tryz.ntmps109
      go_wp2_with (go_at_call 105; refine (IN _).mono ?_; rintro e w' ⟨rfl, rfl⟩)
      go_ret
      exact ⟨by rw [hp.out]; rfl, rfl⟩
    · have f2 : (FloatKind.f64.format.order x 4890909195324358656 == some .gt || FloatKind.f64.format.order x 4890909195324358656 == some .eq) = false := by
        rw [o2, Int.compare_eq_lt.2 (by omega)]; rfl
      have hfin : Flo.fin x := Flo.fin_of_sv hn (by rw [hv]; omega) (by rw [hv]; omega)
      obtain ⟨q, hq⟩ : ∃ q, v / (Flo.U : Int) = q := ⟨_, rfl⟩
      have q1 : -9223372036854775808 ≤ q := by rw [← hq]; exact (Int.le_ediv_iff_mul_le hU).2 (by rw [Int.neg_mul]; omega)
      have q2 : q < 9223372036854775808 := by rw [← hq]; exact (Int.ediv_lt_iff_lt_mul hU).2 (by omega)
      have FL := floor_calls x hfin
      rw [hv, hq] at FL
      have HC : Hid (∀ W, Flo.num W → Flo.sv W = q * (Flo.U : Int) → floatToIntVal .f64 W .i64 = some q) := by
        intro W hW hs
        have hWf : Flo.fin W := by
          refine Flo.fin_of_sv hW ?_ ?_
          · rw [hs]
            have := Int.mul_le_mul_of_nonneg_right q1 (Int.le_of_lt hU)
            rw [Int.neg_mul] at this; omega
          · rw [hs]
            have := Int.mul_lt_mul_of_pos_right q2 hU
            omega
        unfold floatToIntVal
        have e : (FloatKind.f64.decode W).toInt .zero = some q := by
          show (Ieee.double.read W).toInt .zero = _
          rw [Flo.toInt_zero hWf, hs, Int.mul_tdiv_cancel _ (by omega)]
        rw [e]
        simp only
        rw [if_pos]
        show -9223372036854775808 ≤ q ∧ q ≤ 9223372036854775807
        omega
      have hp : Hid (Flo.clampV (Flo.sv x) lo hi = max lo (min hi q)) := by rw [Hid, hv]; unfold Flo.clampV; rw [hq]
      have HQ := Lib.hid (And.intro q1 q2)
      clear o1 o2 hinf hv z2 c1 c2 hU hq q1 q2 hfin
      have FLH := Lib.hid FL
      clear FL
      go_enter Tryz.func109, Tryz.ntmps109
      go_wp2_with (first | (go_at_call 105; refine (IN _).mono ?_; rintro e w' ⟨rfl, rfl⟩))
      refine (FLH.out _).mono ?_
      rintro e w2 ⟨W, rfl, hW1, hW2, hW3, rfl⟩
      have hcv := fun w => run_convert_float_int (P := Tryz.prog) w 63 3 .f64 .i64 W q (by kernel_rfl) Tryz.underlying3 (HC.out W hW2 hW3)
      clear hW1 hW2 hW3
      go_wp2_with fail
      go_ret
      exact ⟨by rw [hp.out]; rfl, rfl⟩
/-- What a segment predicts. -/
def guessV (s : Seg) (q : Int) : Int := Flo.clampV (Flo.alongV s.slope s.inter (max q s.first - s.first)) s.frm s.upto
/-- Nothing is wrong with a segment. -/
structure SegOk (s : Seg) : Prop where
  f0 : 0 ≤ s.frm
  ft : s.frm < s.upto
  t1 : s.upto ≤ 4294967296
  sl : s.slope ≤ 4611686018427387904
  it : Flo.fin s.inter
theorem chk_ok {s : Seg} : chk s = 0 ↔ SegOk s := by
  unfold chk
  constructor
  · intro h
    split at h
    · omega
    · rename_i h1
      split at h
      · omega
      · rename_i h2
        split at h
        · omega
        · rename_i h3
          exact ⟨by omega, by omega, by omega, Decidable.not_not.1 h2, Decidable.not_not.1 h3⟩
  · intro h
    have := h.f0; have := h.ft; have := h.t1
    rw [if_neg (by omega), if_neg (fun h2 => h2 h.sl), if_neg (fun h2 => h2 h.it)]
theorem guess_in {s : Seg} (h : SegOk s) (q : Int) : s.frm ≤ guessV s q ∧ guessV s q ≤ s.upto := by
  unfold guessV Flo.clampV
  have := h.ft
  omega
/-- The words of a segment are words. -/
def SegFit (s : Seg) : Prop := SegW s ∧ 0 ≤ s.first ∧ s.first < 18446744073709551616

set_option maxHeartbeats 2000000 in
theorem guess_calls (s : Seg) (q : Int) (hs : SegFit s) (hk : SegOk s) (hq : 0 ≤ q ∧ q < 18446744073709551616) (w : World) :
    Calls Tryz.prog 85 #[segVal s, .int .u64 q] w fun e w' => e = .returned (.int .i64 (guessV s q)) ∧ Fr w w' := by
  have MC := fun w => mcheck_calls s hs.1 w
  rw [chk_ok.2 hk] at MC
  obtain ⟨hsw, hf0, hf1⟩ := hs
  obtain ⟨k1, k2, k3, k4, k5⟩ := hk
  have hfar : 0 ≤ max q s.first - s.first ∧ max q s.first - s.first < 18446744073709551616 := by omega
  have AL := fun w => along2_calls s.slope s.inter (max q s.first - s.first) k4 k5 hfar.1 hfar.2 w
  obtain ⟨p, _, _, a1, a2, a3⟩ := Flo.along_word k4 k5 hfar.1 hfar.2
  have CL := fun w => clamp_calls (Flo.alongW s.slope (max q s.first - s.first) s.inter) s.frm s.upto (by omega) a1 (by omega) k1 (by omega) w
  rw [a2] at CL
  have hp : Hid (guessV s q = Flo.clampV (Flo.alongV s.slope s.inter (max q s.first - s.first)) s.frm s.upto) := rfl
  obtain ⟨R, hR⟩ : ∃ R, Flo.clampV (Flo.alongV s.slope s.inter (max q s.first - s.first)) s.frm s.upto = R := ⟨_, rfl⟩
  obtain ⟨A, hA⟩ : ∃ A, Flo.alongW s.slope (max q s.first - s.first) s.inter = A := ⟨_, rfl⟩
  rw [hR] at CL hp
  rw [hA] at CL AL
  rw [hp.out]
  clear hR hA a1 a2 a3 hp hsw
  obtain ⟨sf, sl, it, fr, up⟩ := s
  dsimp only at *
  unfold segVal at *
  dsimp only at *
  have hb := heap_alloc_new w (.cells #[.int .u64 sf, .float .f64 sl, .float .f64 it, .int .i64 fr, .int .i64 up] 65)
  have HB := Lib.hid hb
  have HF := Lib.hid ((Fr.refl w).alloc (.cells #[.int .u64 sf, .float .f64 sl, .float .f64 it, .int .i64 fr, .int .i64 up] 65))
  obtain ⟨x0, x1, x2, x3, x4⟩ := cells5 hb
  have hw1 : IntKind.u64.wrap (max q sf - sf) = max q sf - sf := wrap_u64_in _ hfar.1 hfar.2
  have MCH := Lib.hid MC
  have ALH := Lib.hid AL
  have CLH := Lib.hid CL
  clear hb MC AL CL
  go_enter Tryz.func85, Tryz.ntmps85
  go_wp2_with fail
  refine (MCH.out _).mono ?_
  rintro e w2 ⟨rfl, hf2⟩
  obtain ⟨y0, y1, y2, y3, y4⟩ := cells5 (hf2.blk HB.out)
  have HF2 : Hid (Fr w w2) := HF.out.trans hf2
  clear x0 x1 x2 x3 x4 hf2
  go_wp2_with fail
  go_quiet (first | (go_at_call 110; exact Calls.quiet_of_same (ALH.out _)) | (go_at_call 109; exact Calls.quiet_of_same (CLH.out _)))
  go_wp2_with fail
  go_ret
  exact ⟨rfl, HF2.out.drewN _⟩
end Go.Proofs.YthjimnmgbcckjaaGreat
namespace Go.Proofs.YthjimnmgbcckjaaGreat
open Go.RowKit Go.Inc Go.Run
attribute [local irreducible] Flo.U

theorem slope_err {num den : Int} {s : Nat} (h : SlopeOf num den s) (h1 : num ≤ den) (hd : 0 < den) : s ≤ 4611686018427387904 ∧ (9007199254740992 * (Flo.sv s * den - num * (Flo.U : Int)) ≤ num * (Flo.U : Int) ∧ -(num * (Flo.U : Int)) ≤ 9007199254740992 * (Flo.sv s * den - num * (Flo.U : Int))) := by
  rcases h with ⟨rfl, rfl⟩ | ⟨h0, K, t, hn, ht, rfl⟩
  · refine ⟨by decide, ?_⟩
    have : Flo.sv 0 = 0 := by rw [Flo.sv_small (by decide)]; rfl
    rw [this]
    simp
  · obtain ⟨n, rfl⟩ := Int.eq_ofNat_of_zero_le (Int.le_of_lt h0)
    obtain ⟨d, rfl⟩ := Int.eq_ofNat_of_zero_le (Int.le_of_lt hd)
    rw [Int.toNat_natCast, Int.toNat_natCast] at hn
    have hd0 : 0 < d := by omega
    obtain ⟨kb1, kb2⟩ := hn.bits hd0
    -- t is not below 52
    have ht52 : 52 ≤ t := by
      rcases Nat.lt_or_ge t 52 with h | h
      · have h2 : 2 ^ t < 2 ^ 52 := Nat.pow_lt_pow_right (by decide) h
        have h3 := hn.lo
        have h4 : n * 2 ^ t ≤ d * 2 ^ t := Nat.mul_le_mul_right _ (by omega)
        have h5 : d * 2 ^ t < d * 2 ^ 52 := Nat.mul_lt_mul_of_pos_left h2 hd0
        have e : d * 2 ^ 52 = 4503599627370496 * d := by rw [Nat.mul_comm]
        omega
      · exact h
    have ekw : kw K (-(t : Int)) = (1074 - t) * 4503599627370496 + K := by unfold kw; congr 2; omega
    have hle : kw K (-(t : Int)) ≤ 4611686018427387904 := by rw [ekw]; omega
    refine ⟨hle, ?_⟩
    rw [Flo.sv_small (by omega), ekw, Flo.rv_of _ _ (by omega) (.inr kb1)]
    -- the exact values
    obtain ⟨Q, hQ⟩ : ∃ Q, 2 ^ (1074 - t) = Q := ⟨_, rfl⟩
    have hU : Flo.U = 2 ^ t * Q := by rw [← hQ, ← Nat.pow_add]; unfold Flo.U; congr 1; omega
    rw [hQ, hU]
    have hnear := hn.near
    have hlo := hn.lo
    obtain ⟨N, hN⟩ : ∃ N, n * 2 ^ t = N := ⟨_, rfl⟩
    rw [hN] at hnear hlo
    have hm := Nat.div_add_mod N d
    have hml := Nat.mod_lt N hd0
    have a1 : 2 * N ≤ 2 * (K * d) + d := by
      rw [hnear]; unfold rneQ
      rw [Nat.add_mul]
      have e : N / d * d = d * (N / d) := Nat.mul_comm _ _
      split <;> omega
    have a2 : 2 * (K * d) ≤ 2 * N + d := by
      rw [hnear]; unfold rneQ
      rw [Nat.add_mul]
      have e : N / d * d = d * (N / d) := Nat.mul_comm _ _
      split <;> omega
    have e1 : ((K * Q : Nat) : Int) * (d : Int) = ((K * d : Nat) : Int) * (Q : Int) := by push_cast; grind
    have e2 : (n : Int) * ((2 ^ t * Q : Nat) : Int) = ((N : Nat) : Int) * (Q : Int) := by rw [← hN, Int.natCast_mul, Int.natCast_mul]; grind
    rw [e1, e2, ← Int.sub_mul]
    generalize K * d = KD at *
    have c1 : 9007199254740992 * ((KD : Int) - N) ≤ N := by omega
    have c2 : -(N : Int) ≤ 9007199254740992 * ((KD : Int) - N) := by omega
    have hQ0 : (0 : Int) ≤ (Q : Int) := by omega
    constructor
    · have := Int.mul_le_mul_of_nonneg_right c1 hQ0
      rw [Int.mul_assoc] at this; exact this
    · have := Int.mul_le_mul_of_nonneg_right c2 hQ0
      rw [Int.mul_assoc, Int.neg_mul] at this; exact this
theorem castU (j : Nat) (c : Int) (hc : ((2 ^ j : Nat) : Int) = c) : ((Flo.U * 2 ^ j : Nat) : Int) = c * (Flo.U : Int) := by rw [Int.natCast_mul, hc, Int.mul_comm]
theorem inf_int (j : Nat) (hj : j ≤ 99) (c : Int) (hc : ((2 ^ j : Nat) : Int) = c) : c * (Flo.U : Int) < (Flo.rv 9218868437227405312 : Int) := by
  rw [← castU j c hc]; exact Int.ofNat_lt.2 (Flo.inf_big j hj)
theorem abs_le_of {x c : Int} (h1 : x ≤ c) (h2 : -c ≤ x) : (x.natAbs : Int) ≤ c := by omega
theorem near0 {E : Int} (h1 : E ≤ 73786976294838206464 * (Flo.U : Int)) (h2 : -(73786976294838206464 * (Flo.U : Int)) ≤ E) : 9007199254740992 * (Flo.srv E 0 - E) ≤ max (E.natAbs : Int) 4503599627370496 ∧ -(max (E.natAbs : Int) 4503599627370496) ≤ 9007199254740992 * (Flo.srv E 0 - E) := by
  have hab := abs_le_of h1 h2
  have hsn := Flo.srv_near (E := E) (q := 0) (by
    rw [Nat.pow_zero, Nat.mul_one]
    exact Int.ofNat_le.1 (Int.le_of_lt (Int.lt_of_le_of_lt hab (inf_int 66 (by decide) _ rfl))))
  rw [Nat.pow_zero] at hsn
  have e1 : ((1 : Nat) : Int) = 1 := rfl
  rw [e1, Int.mul_one, Int.one_mul] at hsn
  exact hsn
theorem nearU {E : Int} (h0 : 0 ≤ E) (h1 : E ≤ 36893488147419103232 * (Flo.U : Int) * (Flo.U : Int)) : 9007199254740992 * (Flo.srv E 1074 * (Flo.U : Int) - E) ≤ E + (Flo.U : Int) * 4503599627370496 ∧ -(E + (Flo.U : Int) * 4503599627370496) ≤ 9007199254740992 * (Flo.srv E 1074 * (Flo.U : Int) - E) := by
  have hU : (0 : Int) ≤ (Flo.U : Int) := by omega
  have hsn := Flo.srv_near (E := E) (q := 1074) (by
    rw [Flo.U_eq]
    apply Int.ofNat_le.1
    rw [Int.natCast_mul]
    have h2 := Int.mul_le_mul_of_nonneg_right (Int.le_of_lt (inf_int 65 (by decide) _ rfl)) hU
    refine Int.le_trans (abs_le_of h1 (Int.le_trans ?_ h0)) h2
    have h3 : 0 ≤ 36893488147419103232 * (Flo.U : Int) * (Flo.U : Int) := Int.mul_nonneg (Int.mul_nonneg (by decide) hU) hU
    exact Int.neg_nonpos_of_nonneg h3)
  rw [Flo.U_eq] at hsn
  have hE : (E.natAbs : Int) = E := by omega
  rw [hE] at hsn
  have h4 : (0 : Int) ≤ (Flo.U : Int) * 4503599627370496 := Int.mul_nonneg hU (by decide)
  generalize (Flo.U : Int) * 4503599627370496 = Y at *
  generalize Flo.srv E 1074 * (Flo.U : Int) - E = D at *
  clear h1 hU
  omega
theorem bound0 {E : Int} (h : E ≤ 18446744073709551616 * (Flo.U : Int)) : Flo.srv E 0 ≤ 18446744073709551616 * (Flo.U : Int) := by
  rw [← castU 64 18446744073709551616 rfl] at h ⊢
  exact Flo.srv_bound (by decide) (by rw [Nat.pow_zero, Nat.mul_one]; exact h)
theorem boundU {E : Int} (h : E ≤ 36893488147419103232 * (Flo.U : Int) * (Flo.U : Int)) : Flo.srv E 1074 ≤ 36893488147419103232 * (Flo.U : Int) := by
  rw [← castU 65 36893488147419103232 rfl] at h ⊢
  exact Flo.srv_bound (by decide) (by rw [Flo.U_eq, Int.natCast_mul]; exact h)
theorem inter_fin {i : Int} (hi : -17179869184 ≤ i ∧ i ≤ 17179869184) : Flo.fin (floatOfInt .f64 i) ∧ floatOfInt .f64 i < 18446744073709551616 ∧
    (9007199254740992 * (Flo.sv (floatOfInt .f64 i) - i * (Flo.U : Int)) ≤ 17179869184 * (Flo.U : Int) + 4503599627370496 ∧ -(17179869184 * (Flo.U : Int) + 4503599627370496) ≤ 9007199254740992 * (Flo.sv (floatOfInt .f64 i) - i * (Flo.U : Int))) := by
  obtain ⟨f1, f2, f3⟩ := Flo.int_near i
  have hUb : (4503599627370496 : Int) ≤ (Flo.U : Int) := Int.ofNat_le.2 Flo.U_big
  have hinf := inf_int 40 (by decide) _ rfl
  have h1 : i * (Flo.U : Int) ≤ 17179869184 * (Flo.U : Int) := Int.mul_le_mul_of_nonneg_right hi.2 (by omega)
  have h2 : -17179869184 * (Flo.U : Int) ≤ i * (Flo.U : Int) := Int.mul_le_mul_of_nonneg_right hi.1 (by omega)
  have hsv : Flo.sv (floatOfInt .f64 i) = Flo.srv (i * (Flo.U : Int)) 0 := f2
  have hsn := near0 (E := i * (Flo.U : Int)) (by omega) (by omega)
  rw [hsv]
  have f1' : Flo.num (floatOfInt .f64 i) := f1
  have f3' : floatOfInt .f64 i < 2 * 9223372036854775808 := f3
  have hs1 : -(1099511627776 * (Flo.U : Int)) < Flo.srv (i * (Flo.U : Int)) 0 ∧ Flo.srv (i * (Flo.U : Int)) 0 < 1099511627776 * (Flo.U : Int) := by
    clear hinf hsv f1 f2 f3 f1' f3'
    generalize Flo.srv (i * (Flo.U : Int)) 0 = s at *
    generalize i * (Flo.U : Int) = X at *
    generalize (Flo.U : Int) = K at *
    omega
  refine ⟨Flo.fin_of_sv f1' ?_ ?_, f3', ?_⟩
  · rw [hsv]
    exact Int.lt_trans (Int.neg_lt_neg hinf) hs1.1
  · rw [hsv]
    exact Int.lt_trans hs1.2 hinf
  · clear hinf hsv f1 f2 f3 f1' f3' hs1
    generalize Flo.srv (i * (Flo.U : Int)) 0 = s at *
    generalize i * (Flo.U : Int) = X at *
    generalize (Flo.U : Int) = K at *
    omega

/-- The segment's float is near to the line. -/
theorem along_line {num den : Int} {s : Nat} (h : SlopeOf num den s) (h0 : 0 ≤ num) (h1 : num ≤ den) (hd : 0 < den) {i far : Int} (hi : -17179869184 ≤ i ∧ i ≤ 17179869184) (hf : 0 ≤ far ∧ far < 18446744073709551616) (hx : num * far ≤ 8589934592 * den) :
    num * far / den + i - 1 ≤ Flo.alongV s (floatOfInt .f64 i) far / (Flo.U : Int) ∧ Flo.alongV s (floatOfInt .f64 i) far / (Flo.U : Int) ≤ num * far / den + i + 1 := by
  obtain ⟨sl, e1⟩ := slope_err h h1 hd
  obtain ⟨_, _, e4⟩ := inter_fin hi
  have hUb : (4503599627370496 : Int) ≤ (Flo.U : Int) := Int.ofNat_le.2 Flo.U_big
  have hUi : (0 : Int) < (Flo.U : Int) := by omega
  have ha0 : 0 ≤ Flo.sv s := by rw [Flo.sv_small (by omega)]; omega
  have ha : Flo.sv s ≤ 2 * (Flo.U : Int) := by
    rw [Flo.sv_small (by omega), ← castU 1 2 rfl]
    have h2 := Flo.rv_le sl
    have h3 := Flo.rv_pow 1
    rw [show (1074 + 1 - 52) * 4503599627370496 + 4503599627370496 = 4611686018427387904 by decide] at h3
    rw [h3] at h2
    exact Int.ofNat_le.2 h2
  -- far's float
  obtain ⟨G, hG⟩ : ∃ G, far * (Flo.U : Int) = G := ⟨_, rfl⟩
  have hG0 : 0 ≤ G := by rw [← hG]; exact Int.mul_nonneg hf.1 (by omega)
  have hGb : G ≤ 18446744073709551616 * (Flo.U : Int) := by rw [← hG]; exact Int.mul_le_mul_of_nonneg_right (by omega) (by omega)
  have hF0 : 0 ≤ Flo.srv G 0 := Flo.srv_nonneg hG0
  have hFb : Flo.srv G 0 ≤ 18446744073709551616 * (Flo.U : Int) := bound0 hGb
  have e2 : 9007199254740992 * (Flo.srv G 0 - far * (Flo.U : Int)) ≤ far * (Flo.U : Int) ∧ -(far * (Flo.U : Int)) ≤ 9007199254740992 * (Flo.srv G 0 - far * (Flo.U : Int)) := by
    rw [hG]
    have hsn := near0 (E := G) (by omega) (by omega)
    by_cases hz : far = 0
    · subst hz
      have hG : G = 0 := by rw [← hG]; exact Int.zero_mul _
      subst hG
      have : Flo.srv 0 0 = 0 := rfl
      rw [this]
      decide
    · have hGU : (Flo.U : Int) ≤ G := by
        have : 1 * (Flo.U : Int) ≤ far * (Flo.U : Int) := Int.mul_le_mul_of_nonneg_right (by omega) (by omega)
        rw [hG, Int.one_mul] at this; exact this
      generalize Flo.srv G 0 = F at *
      generalize (Flo.U : Int) = K at *
      omega
  obtain ⟨F, hF⟩ : ∃ F, Flo.srv G 0 = F := ⟨_, rfl⟩
  rw [hF] at hF0 hFb e2
  -- the product
  obtain ⟨E, hE⟩ : ∃ E, Flo.sv s * F = E := ⟨_, rfl⟩
  have hE0 : 0 ≤ E := by rw [← hE]; exact Int.mul_nonneg ha0 hF0
  have hEb : E ≤ 36893488147419103232 * (Flo.U : Int) * (Flo.U : Int) := by
    rw [← hE]
    have h6 := Int.mul_le_mul_of_nonneg_right ha hF0
    have h7 := Int.mul_le_mul_of_nonneg_left hFb (show 0 ≤ 2 * (Flo.U : Int) by omega)
    have e : 2 * (Flo.U : Int) * (18446744073709551616 * (Flo.U : Int)) = 36893488147419103232 * (Flo.U : Int) * (Flo.U : Int) := by
      generalize (Flo.U : Int) = K
      grind
    rw [e] at h7
    exact Int.le_trans h6 h7
  have hP0 : 0 ≤ Flo.srv E 1074 := Flo.srv_nonneg hE0
  have hPb : Flo.srv E 1074 ≤ 36893488147419103232 * (Flo.U : Int) := boundU hEb
  have e3 := nearU hE0 hEb
  obtain ⟨P, hP⟩ : ∃ P, Flo.srv E 1074 = P := ⟨_, rfl⟩
  rw [hP] at hP0 hPb e3
  -- the sum
  obtain ⟨iv, hiv⟩ : ∃ iv, Flo.sv (floatOfInt .f64 i) = iv := ⟨_, rfl⟩
  rw [hiv] at e4
  obtain ⟨T, hT⟩ : ∃ T, Flo.alongV s (floatOfInt .f64 i) far = T := ⟨_, rfl⟩
  have hTe : Flo.srv (P + iv) 0 = T := by rw [← hT]; unfold Flo.alongV; rw [hG, hF, hE, hP, hiv]
  have h1' : i * (Flo.U : Int) ≤ 17179869184 * (Flo.U : Int) := Int.mul_le_mul_of_nonneg_right hi.2 (by omega)
  have h2' : -17179869184 * (Flo.U : Int) ≤ i * (Flo.U : Int) := Int.mul_le_mul_of_nonneg_right hi.1 (by omega)
  have e5 : 9007199254740992 * (T - (P + iv)) ≤ max ((P + iv).natAbs : Int) 4503599627370496 ∧ -(max ((P + iv).natAbs : Int) 4503599627370496) ≤ 9007199254740992 * (T - (P + iv)) := by
    rw [← hTe]
    clear hTe hT hiv hP hE hF hG e1 e2 e3 hEb h ha
    refine near0 ?_ ?_ <;> (generalize i * (Flo.U : Int) = X at *; generalize (Flo.U : Int) = K at *; omega)
  have hall := Flo.errs (u := (Flo.U : Int)) (a := Flo.sv s) (den := den) (num := num) (F := F) (far := far) (P := P) (iv := iv) (i := i) (T := T) (x := num * far) hUb hd h0 hf.1 rfl hx ha0 hF0 hP0 e1 e2 (by rw [hE]; exact e3) hi e4 (fun m m1 m2 => by
    clear hTe hT hiv hP hE hF hG e1 e2 e3 hEb h ha e4 hPb h1' h2' hGb hFb
    generalize P + iv = PI at *
    omega)
  rw [hT]
  exact Flo.floor_near hUi hd rfl hall
/-- The segment of a stretch is one that may be, and predicts each key with at most eps off. -/
theorem segof_ok {e : Int} (he : 1 ≤ e ∧ e ≤ 63) {L : List Int} (hR : Rise L) (hK : KeysOk L) (h0 : 0 < L.length) {frm : Int} (hl : 0 ≤ frm ∧ frm + L.length ≤ 4294967296) {s : Seg} (h : SegOf e L frm s) (hF : FitsL e L) :
    SegOk s ∧ SegFit s ∧ ∀ i, i < L.length → -(e + 1) ≤ guessV s (ky L i) - (frm + i) ∧ guessV s (ky L i) - (frm + i) ≤ e + 1 := by
  obtain ⟨num, den, base, hlow, hbase, hsl, hit⟩ := h.ex
  have hb := low_bound (by omega) (by omega) hR hK hlow
  have hone := low_one hR (by omega) hlow
  obtain ⟨nt, dt, htop, hna⟩ := hF.pair hR hlow
  have part0 : Go.Run.part num den L 0 = 0 := by unfold Go.Run.part; rw [Int.sub_self, Int.mul_zero, Int.zero_ediv]
  have hbb : -e ≤ base ∧ base ≤ L.length := by
    have h3 := hbase.1 0 h0
    rw [part0] at h3
    have n0 := near (by omega) hlow htop hna hbase 0 h0
    rw [part0] at n0
    refine ⟨by omega, ?_⟩
    obtain ⟨j, hj, hB⟩ := hbase.2
    have hpj := part_le (by omega) hR hlow hF hj
    have : 0 ≤ Go.Run.part num den L j := Int.ediv_nonneg hpj.2 (by omega)
    omega
  obtain ⟨i1, i2, _⟩ := inter_fin (i := frm + base) (by omega)
  have hsle := (slope_err hsl hone hb.2.1).1
  have hf1 := h.hfrm
  have hf2 := h.hto
  have hf3 := h.hfirst
  have hk0 := hK.ky h0
  refine ⟨⟨by omega, by omega, by omega, hsle, by rw [hit]; exact i1⟩, ⟨⟨by omega, by rw [hit]; exact i2⟩, by rw [hf3]; exact hk0⟩, fun i hi => ?_⟩
  have hge : ky L 0 ≤ ky L i := by
    rcases Nat.eq_zero_or_pos i with rfl | h1
    · omega
    · have := rise_lt hR h1 hi; omega
  have hki := hK.ky hi
  have hpi := part_le (by omega) hR hlow hF hi
  have hn := near (by omega) hlow htop hna hbase i hi
  have hx : num * (ky L i - ky L 0) ≤ 8589934592 * den := by
    have : ((i : Int) + 2 * e) * den ≤ 8589934592 * den := Int.mul_le_mul_of_nonneg_right (by omega) (by omega)
    omega
  have hal := along_line hsl hb.1.1 hone hb.2.1 (i := frm + base) (far := ky L i - ky L 0) (by omega) (by omega) hx
  have hpart : num * (ky L i - ky L 0) / den = Go.Run.part num den L i := rfl
  rw [hpart] at hal
  unfold guessV Flo.clampV
  rw [hit, hf1, hf2, hf3]
  have hmax : max (ky L i) (ky L 0) - ky L 0 = ky L i - ky L 0 := by omega
  rw [hmax]
  generalize Flo.alongV s.slope (floatOfInt FloatKind.f64 (frm + base)) (ky L i - ky L 0) / (Flo.U : Int) = V at *
  generalize Go.Run.part num den L i = P at *
  omega
/-- A prediction grows with the key. -/
theorem guess_mono {s : Seg} (hs : s.slope ≤ 4611686018427387904) {p q : Int} (h : p ≤ q) : guessV s p ≤ guessV s q := by
  have hU : (0 : Int) < (Flo.U : Int) := by have := Flo.U_pos; omega
  have h0 : 0 ≤ Flo.sv s.slope := by rw [Flo.sv_small (by omega)]; omega
  have h1 := Flo.alongV_mono (s := s.slope) (inter := s.inter) h0 (f := max p s.first - s.first) (g := max q s.first - s.first) (by omega)
  have h2 := Int.ediv_le_ediv hU h1
  unfold guessV Flo.clampV
  generalize Flo.alongV s.slope s.inter (max p s.first - s.first) / (Flo.U : Int) = V at *
  generalize Flo.alongV s.slope s.inter (max q s.first - s.first) / (Flo.U : Int) = W at *
  omega
/-- How far a prediction is off. -/
def offAt (s : Seg) (L : List Int) (i : Nat) : Int := max (guessV s (ky L i) - s.frm - i) (-(guessV s (ky L i) - s.frm - i))
/-- The worst. -/
structure IsOff (s : Seg) (L : List Int) (n : Nat) (r : Int) : Prop where
  nn : 0 ≤ r
  le : ∀ i, i < n → offAt s L i ≤ r
  at' : r = 0 ∨ ∃ i, i < n ∧ r = offAt s L i
theorem IsOff.next {s : Seg} {L : List Int} {n : Nat} {r : Int} (h : IsOff s L n r) : IsOff s L (n + 1) (max r (offAt s L n)) := by
  refine ⟨by have := h.nn; omega, fun i hi => ?_, ?_⟩
  · rcases Nat.lt_or_ge i n with h1 | h1
    · have := h.le i h1; omega
    · obtain rfl : i = n := by omega
      omega
  · rcases Int.le_total r (offAt s L n) with h1 | h1
    · exact .inr ⟨n, by omega, by omega⟩
    · rcases h.at' with h2 | ⟨i, hi, h2⟩
      · exact .inl (by omega)
      · exact .inr ⟨i, by omega, by omega⟩
theorem off_zero (s : Seg) (L : List Int) : IsOff s L 0 0 := ⟨by decide, fun i hi => by omega, .inl rfl⟩
/-- All is within r just if the worst is. -/
theorem IsOff.iff {s : Seg} {L : List Int} {n : Nat} {r m : Int} (h : IsOff s L n r) (hm : 0 ≤ m) : r ≤ m ↔ ∀ i, i < n → -m ≤ guessV s (ky L i) - s.frm - i ∧ guessV s (ky L i) - s.frm - i ≤ m := by
  constructor
  · intro h1 i hi
    have := h.le i hi
    unfold offAt at this
    omega
  · intro h1
    rcases h.at' with h2 | ⟨i, hi, h2⟩
    · omega
    · have := h1 i hi
      unfold offAt at h2
      omega
end Go.Proofs.YthjimnmgbcckjaaGreat
namespace Go.Proofs.YthjimnmgbcckjaaGreat
set_option maxRecDepth 100000
open Go.RowKit Go.Inc Go.Run

set_option maxHeartbeats 4000000 in
theorem moff_calls (s : Seg) (L : List Int) (A : Option Addr) (n c : Nat) (hs : SegFit s) (hk : SegOk s) (hn : n = L.length) (hR : Rise L) (hK : KeysOk L) (hlen : s.upto - s.frm = n) (hfirst : ky L 0 = s.first) (w : World) (hr : RdC w A (L.map uv)) :
    Calls Tryz.prog 119 #[segVal s, .slice A n c] w fun e w' => ∃ r, e = .returned (.tuple #[.int .i64 r, .int .i64 0]) ∧ IsOff s L n r ∧ Fr w w' := by
  have hb5 := And.intro hk.f0 (And.intro hk.ft hk.t1)
  have h0n : 0 < n := by omega
  have hln : n ≤ 4294967296 := by omega
  obtain ⟨b, off, hA, hc⟩ := rdc_ky hr (by omega)
  subst hA
  have MC := fun w => mcheck_calls s hs.1 w
  rw [chk_ok.2 hk] at MC
  have GU := fun q hq w => guess_calls s q hs hk hq w
  have HGI : Hid (∀ q, s.frm ≤ guessV s q ∧ guessV s q ≤ s.upto) := fun q => guess_in hk q
  have HR := Lib.hid hr
  have HN := Lib.hid hn
  have HRI := Lib.hid hR
  have HK := Lib.hid hK
  have HC := Lib.hid hc
  have HFI := Lib.hid hfirst
  have MCH := Lib.hid MC
  have GUH := Lib.hid GU
  have hw1 : IntKind.i64.wrap (s.upto - s.frm) = (n : Int) := by rw [hlen]; exact wrap_i64_in _ (by omega) (by omega)
  have HB5 := Lib.hid hb5
  have HLEN := Lib.hid hlen
  have hb := heap_alloc_new w (.cells #[.int .u64 s.first, .float .f64 s.slope, .float .f64 s.inter, .int .i64 s.frm, .int .i64 s.upto] 65)
  have HB := Lib.hid hb
  have HF := Lib.hid ((Fr.refl w).alloc (.cells #[.int .u64 s.first, .float .f64 s.slope, .float .f64 s.inter, .int .i64 s.frm, .int .i64 s.upto] 65))
  obtain ⟨x0, x1, x2, x3, x4⟩ := cells5 hb
  have RIS : Hid (∀ w', Fr w w' → Calls Tryz.prog 91 #[.slice (some ⟨b, off, none⟩) n c] w' fun e w'' => e = .returned (.bool true) ∧ Fr w' w'') := by
    intro w' hf
    have h1 := rising_calls L (some ⟨b, off, none⟩) n c hn (by omega) w' (hr.fr hf)
    rw [decide_eq_true hR] at h1
    exact h1
  have HCC : Hid (∀ w', Fr (w.alloc (.cells #[.int .u64 s.first, .float .f64 s.slope, .float .f64 s.inter, .int .i64 s.frm, .int .i64 s.upto] 65)) w' → (w'.cell? ⟨w.heap.size, 0, none⟩ = some (.int .u64 s.first) ∧ w'.cell? ⟨w.heap.size, 1, none⟩ = some (.float .f64 s.slope) ∧ w'.cell? ⟨w.heap.size, 2, none⟩ = some (.float .f64 s.inter) ∧ w'.cell? ⟨w.heap.size, 3, none⟩ = some (.int .i64 s.frm) ∧ w'.cell? ⟨w.heap.size, 4, none⟩ = some (.int .i64 s.upto)) ∧ w'.cell? ⟨b, off, none⟩ = some (.int .u64 s.first)) := by
    intro w' hf
    refine ⟨cells5 (hf.blk hb), ?_⟩
    have h1 := (HF.out.trans hf).cell (hc 0 (by omega))
    rw [Nat.add_zero, hfirst] at h1
    exact h1
  clear hr hn hR hK hc hfirst MC GU hb5 hlen hb hs hk
  unfold segVal at *
  go_enter Tryz.func119, Tryz.ntmps119
  go_wp2_with fail
  obtain ⟨w1, hw1⟩ : ∃ w1, w1 = w.alloc (.cells #[.int .u64 s.first, .float .f64 s.slope, .float .f64 s.inter, .int .i64 s.frm, .int .i64 s.upto] 65) := ⟨_, rfl⟩
  rw [← hw1] at HB HF HCC ⊢
  clear hw1 x0 x1 x2 x3 x4
  refine (MCH.out _).mono ?_
  rintro e w2 ⟨rfl, hf2⟩
  have HF2 := Lib.hid hf2
  clear hf2
  obtain ⟨⟨y0, y1, y2, y3, y4⟩, yk⟩ := HCC.out w2 HF2.out
  have g00 : (0 : Int) < (n : Int) := by omega
  have HSS : Hid (∀ w', Fr w1 w' → (w'.cell? ⟨w.heap.size, 0, none⟩ = some (.int .u64 s.first) ∧ w'.cell? ⟨w.heap.size, 3, none⟩ = some (.int .i64 s.frm) ∧ w'.cell? ⟨w.heap.size, 4, none⟩ = some (.int .i64 s.upto)) ∧ w'.cell? ⟨b, off, none⟩ = some (.int .u64 s.first)) :=
    fun w' hf => ⟨⟨(HCC.out w' hf).1.1, (HCC.out w' hf).1.2.2.2.1, (HCC.out w' hf).1.2.2.2.2⟩, (HCC.out w' hf).2⟩
  go_wp2_with fail
  go_region_held3 (fun w' => (w'.cell? ⟨w.heap.size, 0, none⟩ = some (.int .u64 s.first) ∧ w'.cell? ⟨w.heap.size, 3, none⟩ = some (.int .i64 s.frm) ∧ w'.cell? ⟨w.heap.size, 4, none⟩ = some (.int .i64 s.upto)) ∧ w'.cell? ⟨b, off, none⟩ = some (.int .u64 s.first))
    (first | exact ⟨⟨y0, y3, y4⟩, yk⟩ | exact HSS.out _ hfa.out)
    (first | (go_at_call 91; refine (RIS.out _ (HF.out.trans HF2.out.drew)).mono ?_; rintro e wa ⟨rfl, hqa⟩; have hfa : Hid (Fr w1 wa) := HF2.out.drew.trans hqa))
  go_wp2_with fail
  go_loopw [7, 39] (fun vr v wr => ∃ (i : Nat) (r : Int), vr = .int .i64 r ∧ v = .int .i64 i ∧ i ≤ n ∧ r ≤ 8589934592 ∧ Hid (IsOff s L i r) ∧ Hid (Fr w1 wr)) (fun _ v _ => n - (intOf v).toNat)
  case atStart => exact ⟨0, 0, rfl, rfl, by omega, by omega, off_zero s L, hfa.out⟩
  case round =>
    obtain ⟨i, r, rfl, rfl, hin, hrb, hio, hf⟩ := hrel
    rcases Nat.lt_or_ge i n with hlt | hge
    · have g1 : decide (i < n) = true := decide_eq_true hlt
      have g0 : (i : Int) < (n : Int) := by omega
      have c1 := (HF.out.trans hf.out).cell (HC.out i (by have := HN.out; omega))
      obtain ⟨k, hk⟩ : ∃ k, ky L i = k := ⟨_, rfl⟩
      have hkb := HK.out.ky (show i < L.length by have := HN.out; omega)
      rw [hk] at c1 hkb
      obtain ⟨G, hG⟩ : ∃ G, guessV s k = G := ⟨_, rfl⟩
      have hgb := HGI.out k
      have GU := fun w => GUH.out k hkb w
      rw [hG] at hgb GU
      have GUK := Lib.hid GU
      have hb5 := HB5.out
      have hoff : Hid (offAt s L i = max (G - s.frm - i) (-(G - s.frm - i))) := by rw [Hid]; unfold offAt; rw [hk, hG]
      obtain ⟨D, hD⟩ : ∃ D, G - s.frm - (i : Int) = D := ⟨_, rfl⟩
      have wd1 : IntKind.i64.wrap (G - s.frm) = G - s.frm := wrap_i64_in _ (by omega) (by omega)
      have wd2 : IntKind.i64.wrap D = D := wrap_i64_in _ (by omega) (by omega)
      have wd3 : IntKind.i64.wrap (-D) = -D := wrap_i64_in _ (by omega) (by omega)
      have wi : IntKind.i64.wrap ((i : Int) + 1) = (i : Int) + 1 := wrap_i64_in _ (by omega) (by omega)
      have hDb : Hid (-4294967296 ≤ D ∧ D ≤ 4294967296) := by rw [Hid]; omega
      rw [hD] at hoff
      have hrN := Lib.hid hrb
      obtain ⟨⟨y0, y1, y2, y3, y4⟩, _⟩ := HCC.out wr hf.out
      have HS5 : Hid (∀ w', Fr w1 w' → w'.cell? ⟨w.heap.size, 0, none⟩ = some (.int .u64 s.first) ∧ w'.cell? ⟨w.heap.size, 1, none⟩ = some (.float .f64 s.slope) ∧ w'.cell? ⟨w.heap.size, 2, none⟩ = some (.float .f64 s.inter) ∧ w'.cell? ⟨w.heap.size, 3, none⟩ = some (.int .i64 s.frm) ∧ w'.cell? ⟨w.heap.size, 4, none⟩ = some (.int .i64 s.upto)) := fun w' h => (HCC.out w' h).1
      clear hk hkb hG hgb GU hb5 hrb
      go_wp2_with fail
      go_region_held3 (fun w' => w'.cell? ⟨w.heap.size, 0, none⟩ = some (.int .u64 s.first) ∧ w'.cell? ⟨w.heap.size, 1, none⟩ = some (.float .f64 s.slope) ∧ w'.cell? ⟨w.heap.size, 2, none⟩ = some (.float .f64 s.inter) ∧ w'.cell? ⟨w.heap.size, 3, none⟩ = some (.int .i64 s.frm) ∧ w'.cell? ⟨w.heap.size, 4, none⟩ = some (.int .i64 s.upto))
        (first | exact HS5.out _ hf.out | exact HS5.out _ hf.out.drew | exact HS5.out _ hfb.out)
        (first | (go_at_call 85; refine (GUK.out _).mono ?_; rintro e wb ⟨rfl, hqb⟩; have hfb : Hid (Fr w1 wb) := hf.out.drew.trans hqb))
      go_wp2_with fail
      have hmax : (if (if r < D then D else r) < -D then -D else if r < D then D else r) = max r (offAt s L i) := by
        rw [hoff.out]
        have := hDb.out
        split <;> split <;> omega
      rw [hmax]
      refine ⟨⟨i + 1, max r (offAt s L i), rfl, rfl, by omega, ?_, hio.out.next, hfb.out⟩, by simp only [intOf]; omega⟩
      rw [hoff.out]
      have := hDb.out; have := hrN.out
      omega
    · obtain rfl : i = n := by omega
      have g1 : decide (i < i) = false := by simp
      have hio2 := Lib.hid hio.out
      clear hio
      go_wp2_with fail
      go_ret2
      exact ⟨r, rfl, hio2.out, HF.out.trans hf.out⟩
end Go.Proofs.YthjimnmgbcckjaaGreat
namespace Go.Inc
open Go.RowKit
section
variable {P : Program}
theorem toList_madeCells (z : Array Value) (n : Nat) (hz : 0 < z.size) : (madeCells z (n * z.size)).toList = (List.replicate n ()).flatMap (fun _ => z.toList) := by
  apply List.ext_getElem?
  intro i
  have hl : ((List.replicate n ()).flatMap (fun _ => z.toList)).length = n * z.size := by
    rw [flat_len (fun _ : Unit => z.toList) z.size (fun _ => by simp)]; simp
  rcases Nat.lt_or_ge i (n * z.size) with h | h
  · have h1 : i / z.size < n := by rw [Nat.div_lt_iff_lt_mul hz]; exact h
    have h2 := Nat.mod_lt i hz
    have e : i = i / z.size * z.size + i % z.size := by rw [Nat.mul_comm]; exact (Nat.div_add_mod i z.size).symm
    have h3 := get_flat (fun _ : Unit => z.toList) z.size (fun _ => by simp) (List.replicate n ()) (i / z.size) () (i % z.size) (by simp [h1]) h2
    rw [← e] at h3
    rw [h3]
    unfold madeCells
    simp [h, h2]
  · rw [List.getElem?_eq_none (by rw [Array.length_toList, size_madeCells]; exact h), List.getElem?_eq_none (by rw [hl]; exact h)]
theorem flat_rep {α : Type} (f : α → List Value) (x0 : α) (n : Nat) : (List.replicate n x0).flatMap f = (List.replicate n ()).flatMap (fun _ => f x0) := by
  induction n with
  | zero => rfl
  | succ n ih => rw [List.replicate_succ, List.replicate_succ, List.flatMap_cons, List.flatMap_cons, ih]
/-- make([]T, n) of elements of several cells. -/
theorem run_mkF {α : Type} (f : α → List Value) (x0 : α) (t e : TypeId) (z : Value) (size bytes : Nat) (ht : P.underlying t = some (.slice e)) (hinfo : (P.info? e).map (fun i => (i.zero, i.size, i.bytes)) = some (some z, size, bytes)) (hz : z.cells.size = size) (hf : f x0 = z.cells.toList) (hsz : 0 < size)
    (w : World) (i : Int) (n : Nat) (hi : i = n) (hb : bytes * n ≤ 281474976710656) (h63 : n ≤ 9223372036854775807) :
    (Instr.makeSlice t (.int .i64 i) (.int .i64 i)).run P w = .ok (.slice (some ⟨w.heap.size, 0, none⟩) n n) (w.alloc (.cells (arr ((List.replicate n x0).flatMap f)) e)) := by
  subst hi
  obtain ⟨i0, hi, hzz⟩ := Option.map_eq_some_iff.1 hinfo
  simp only [Prod.mk.injEq] at hzz
  obtain ⟨hz0, hz1, hz2⟩ := hzz
  have hb' : (i0.bytes : Int) * (n : Int) ≤ 281474976710656 := by
    rw [hz2, ← Int.natCast_mul]; omega
  have hr := run_make (P := P) w t e i0 z ht hi hz0 .i64 .i64 n n (by omega) (Int.le_refl _) hb' (by omega)
  simp only [Int.toNat_natCast, hz1] at hr
  rw [hr]
  congr 3
  have h1 := toList_madeCells z.cells n (by omega)
  have h2 := flat_rep f x0 n
  rw [hf] at h2
  rw [arr, h2, ← h1, hz]
end
/-- A row of five cells is written. -/
theorem set_row5 {α : Type} (f : α → List Value) (hf : ∀ x, (f x).length = 5) : ∀ (xs : List α) (i : Nat) (x : α) (v0 v1 v2 v3 v4 : Value), i < xs.length → f x = [v0, v1, v2, v3, v4] →
    (((((xs.flatMap f).set (i * 5) v0).set (i * 5 + 1) v1).set (i * 5 + 2) v2).set (i * 5 + 3) v3).set (i * 5 + 4) v4 = (xs.set i x).flatMap f
  | [], i, _, _, _, _, _, _, h, _ => by simp at h
  | y :: ys, 0, x, v0, v1, v2, v3, v4, _, hx => by
    have hy := hf y
    rw [List.set_cons_zero, List.flatMap_cons, List.flatMap_cons, hx]
    match f y, hy with
    | [a, b, c, d, e], _ => rfl
  | y :: ys, i + 1, x, v0, v1, v2, v3, v4, h, hx => by
    have ih := set_row5 f hf ys i x v0 v1 v2 v3 v4 (by simpa using h) hx
    rw [List.set_cons_succ, List.flatMap_cons, List.flatMap_cons]
    have hy := hf y
    have e0 : (i + 1) * 5 = 5 + i * 5 := by omega
    rw [e0]
    rw [List.set_append_right _ _ (by omega), List.set_append_right _ _ (by omega), List.set_append_right _ _ (by omega), List.set_append_right _ _ (by omega), List.set_append_right _ _ (by omega)]
    rw [hy, Nat.add_sub_cancel_left, show 5 + i * 5 + 1 - 5 = i * 5 + 1 by omega, show 5 + i * 5 + 2 - 5 = i * 5 + 2 by omega, show 5 + i * 5 + 3 - 5 = i * 5 + 3 by omega, show 5 + i * 5 + 4 - 5 = i * 5 + 4 by omega, ih]
end Go.Inc
namespace Go.Proofs.YthjimnmgbcckjaaGreat
set_option maxRecDepth 100000
open Go.RowKit Go.Inc Go.Run

attribute [local go_sem] run_store_float
theorem sgcells_len (s : Seg) : (sgcells s).length = 5 := rfl
/-- The keys of segments. -/
def firstsOf (S : List Seg) : List Int := S.map (·.first)
theorem info_u64r : (Tryz.prog.info? 50).map (fun i => (i.zero, i.size, i.bytes)) = some (some (.int .u64 0), 1, 8) := by kernel_rfl
theorem info_seg : (Tryz.prog.info? 65).map (fun i => (i.zero, i.size, i.bytes)) = some (some (.agg #[.int .u64 0, .float .f64 0, .float .f64 0, .int .i64 0, .int .i64 0]), 5, 40) := by kernel_rfl
/-- The cells of a row of segments. -/
theorem rdc_seg {w : World} {A : Option Addr} {S : List Seg} (h : RdC w A (S.flatMap sgcells)) (hne : 0 < S.length) : ∃ b off, A = some ⟨b, off, none⟩ ∧ ∀ i (hi : i < S.length), w.cell? ⟨b, off + i * 5, none⟩ = some (.int .u64 S[i].first) ∧ w.cell? ⟨b, off + i * 5 + 1, none⟩ = some (.float .f64 S[i].slope) ∧ w.cell? ⟨b, off + i * 5 + 2, none⟩ = some (.float .f64 S[i].inter) ∧ w.cell? ⟨b, off + i * 5 + 3, none⟩ = some (.int .i64 S[i].frm) ∧ w.cell? ⟨b, off + i * 5 + 4, none⟩ = some (.int .i64 S[i].upto) := by
  obtain ⟨b, off, hA, hc⟩ := h.at (by rw [flat_len sgcells 5 sgcells_len]; omega)
  refine ⟨b, off, hA, fun i hi => ?_⟩
  have hg := fun j (hj : j < 5) => get_flat sgcells 5 sgcells_len S i S[i] j (by simp [hi]) hj
  refine ⟨?_, ?_, ?_, ?_, ?_⟩
  · have := hc (i * 5 + 0) _ (by rw [hg 0 (by decide)]; rfl); rw [Nat.add_zero] at this; exact this
  · have := hc (i * 5 + 1) _ (by rw [hg 1 (by decide)]; rfl); rw [← Nat.add_assoc] at this; exact this
  · have := hc (i * 5 + 2) _ (by rw [hg 2 (by decide)]; rfl); rw [← Nat.add_assoc] at this; exact this
  · have := hc (i * 5 + 3) _ (by rw [hg 3 (by decide)]; rfl); rw [← Nat.add_assoc] at this; exact this
  · have := hc (i * 5 + 4) _ (by rw [hg 4 (by decide)]; rfl); rw [← Nat.add_assoc] at this; exact this

set_option maxHeartbeats 2000000 in
theorem firsts_calls (S : List Seg) (A : Option Addr) (n c : Nat) (hn : n = S.length) (hl : S.length ≤ 4294967296) (w : World) (hr : RdC w A (S.flatMap sgcells)) :
    Calls Tryz.prog 93 #[.slice A n c] w fun e w' => ∃ g, e = .returned (.slice (some ⟨g, 0, none⟩) n n) ∧ Blk w' g ((firstsOf S).map uv) 50 ∧ w.heap.size ≤ g ∧ Fr w w' := by
  have hmk := fun W => run_mk1 (P := Tryz.prog) 57 50 (.int .u64 0) 8 Tryz.underlying57 info_u64r rfl W (n : Int) n rfl (by omega) (by omega)
  have HR := Lib.hid hr
  have HN := Lib.hid hn
  have hln : n ≤ 4294967296 := by omega
  clear hr hn hl
  go_enter Tryz.func93, Tryz.ntmps93
  go_wp2_with fail
  obtain ⟨g, hg⟩ : ∃ g, g = w.heap.size := ⟨_, rfl⟩
  obtain ⟨w1, hw1⟩ : ∃ w1, w1 = w.alloc (.cells (arr (List.replicate n (.int .u64 0))) 50) := ⟨_, rfl⟩
  have hb1 : Hid (Blk w1 g (List.replicate n (.int .u64 0)) 50) := by rw [hw1, hg]; exact Blk.new w _ _
  have hf1 : Hid (Fr w w1) := by rw [hw1]; exact (Fr.refl w).alloc _
  rw [← hw1, ← hg]
  have HG : Hid (w.heap.size = g) := hg.symm
  clear hw1 hg hmk
  go_loopw [11] (fun v wr => ∃ i : Nat, v = .int .i64 i ∧ i ≤ n ∧ Hid (Blk wr g (((firstsOf S).take i).map uv ++ List.replicate (n - i) (.int .u64 0)) 50) ∧ Hid (Mv (one1 g) w1 wr)) (fun v _ => n - (intOf v).toNat)
  case atStart => exact ⟨0, rfl, by omega, by rw [Hid]; simpa using hb1.out, Mv.refl _ _⟩
  case round =>
    obtain ⟨i, rfl, hin, hb, hmv⟩ := hrel
    rcases Nat.lt_or_ge i n with hlt | hge
    · have g1 : decide (i < n) = true := decide_eq_true hlt
      have g0 : (i : Int) < (n : Int) := by omega
      have hfr : Hid (Fr w wr) := (hf1.out).mv hmv.out (fun k hk => by rw [show k = g from hk, HG.out]; exact Nat.le_refl _)
      obtain ⟨b, off, hA, hc⟩ := rdc_seg (HR.out.fr hfr.out) (by have := HN.out; omega)
      subst hA
      have hiS : i < S.length := by have := HN.out; omega
      obtain ⟨x0, x1, x2, x3, x4⟩ := hc i hiS
      obtain ⟨s, hs⟩ : ∃ s, S[i] = s := ⟨_, rfl⟩
      rw [hs] at x0 x1 x2 x3 x4
      have HS := Lib.hid hs
      have hlen : (((firstsOf S).take i).map uv).length = i := by
        rw [List.length_map, List.length_take]; unfold firstsOf; rw [List.length_map]; omega
      have f0 := hb.out.frozen i
      have f0c := hb.out.cell i (.int .u64 0) (by
        rw [List.getElem?_append_right (by omega), hlen, Nat.sub_self]
        obtain ⟨k, hk⟩ : ∃ k, n - i = k + 1 := ⟨n - i - 1, by omega⟩
        rw [hk]; rfl)
      have wi : IntKind.i64.wrap ((i : Int) + 1) = (i : Int) + 1 := wrap_i64_in _ (by omega) (by omega)
      have hba := heap_alloc_new wr (.cells #[.int .u64 s.first, .float .f64 s.slope, .float .f64 s.inter, .int .i64 s.frm, .int .i64 s.upto] 65)
      obtain ⟨y0, y1, y2, y3, y4⟩ := cells5 hba
      have hgw := hb.out.lt
      have a0 : (wr.alloc (.cells #[.int .u64 s.first, .float .f64 s.slope, .float .f64 s.inter, .int .i64 s.frm, .int .i64 s.upto] 65)).cell? ⟨g, i, none⟩ = some (.int .u64 0) := ((Fr.refl wr).alloc _).cell f0c
      have a1 : (wr.alloc (.cells #[.int .u64 s.first, .float .f64 s.slope, .float .f64 s.inter, .int .i64 s.frm, .int .i64 s.upto] 65)).frozen? ⟨g, i, none⟩ = false := (hb.out.alloc _).frozen i
      have HLEN := Lib.hid hlen
      clear hc hs hlen f0 f0c hba
      go_wp2_with fail
      refine ⟨⟨i + 1, rfl, by omega, ?_, (hmv.out.set (p := ⟨g, i, none⟩) (.inl rfl) _).alloc _⟩, by simp only [intOf]; omega⟩
      have h1 := (hb.out.set i (.int .u64 s.first)).alloc (.cells #[.int .u64 s.first, .float .f64 s.slope, .float .f64 s.inter, .int .i64 s.frm, .int .i64 s.upto] 65)
      obtain ⟨k, hk⟩ : ∃ k, n - i = k + 1 := ⟨n - i - 1, by omega⟩
      rw [hk, set_rep _ k _ _ i HLEN.out] at h1
      have e1 : n - (i + 1) = k := by omega
      have e2 : ((firstsOf S).take (i + 1)).map uv = ((firstsOf S).take i).map uv ++ [.int .u64 s.first] := by
        rw [List.take_add_one]
        unfold firstsOf
        simp [hiS, HS.out, uv]
      rw [Hid, e1, e2]
      exact h1
    · obtain rfl : i = n := by omega
      have g1 : decide (i < i) = false := by simp
      go_wp2_with fail
      go_ret
      refine ⟨g, rfl, ?_, by rw [HG.out]; exact Nat.le_refl _, (hf1.out).mv hmv.out (fun k hk => by rw [show k = g from hk, HG.out]; exact Nat.le_refl _)⟩
      have h1 := hb.out
      rw [Nat.sub_self, List.replicate_zero, List.append_nil, List.take_of_length_le (by unfold firstsOf; rw [List.length_map]; have := HN.out; omega)] at h1
      exact h1
/-- The segments of stretches, one behind the other. -/
def LevelOf (e : Int) (L : List Int) : Nat → List Seg → Nat → Prop
  | s, [], t => s = t
  | s, x :: S, t => ∃ u, CutOk e L s u ∧ SegOf e (seg L s u) s x ∧ LevelOf e L u S t
theorem LevelOf.snoc {e : Int} {L : List Int} : ∀ {S : List Seg} {s t u : Nat} {x : Seg}, LevelOf e L s S t → CutOk e L t u → SegOf e (seg L t u) t x → LevelOf e L s (S ++ [x]) u
  | [], s, t, u, x, h, h2, h3 => by obtain rfl : s = t := h; exact ⟨u, h2, h3, rfl⟩
  | y :: S, s, t, u, x, h, h2, h3 => by
    obtain ⟨v, h4, h5, h6⟩ := h
    exact ⟨v, h4, h5, h6.snoc h2 h3⟩
theorem cuts_at {e : Int} {L : List Int} {s t u : Nat} {E : List Nat} (h : Cuts e L s (u :: E) t) : CutOk e L s u ∧ Cuts e L u E t := h
def seg0 : Seg := ⟨0, 0, 0, 0, 0⟩

set_option maxHeartbeats 4000000 in
theorem over_calls (L : List Int) (A : Option Addr) (n c : Nat) (eps : Int) (hn : n = L.length) (hc : n ≤ c) (hl : L.length < 4294967296) (he : 2 ≤ eps ∧ eps ≤ 64) (hR : Rise L) (hK : KeysOk L) (w : World) (hr : RdC w A (L.map uv)) :
    Calls Tryz.prog 92 #[.slice A n c, .int .i64 eps] w fun r w' => ∃ (g : Nat) (S : List Seg), r = .returned (.slice (some ⟨g, 0, none⟩) S.length S.length) ∧ LevelOf (eps - 1) L 0 S L.length ∧ Blk w' g (S.flatMap sgcells) 65 ∧ w.heap.size ≤ g ∧ Fr w w' := by
  have ED := Lib.hid (ends_calls L A n c eps hn hl he hR hK w hr)
  have HR := Lib.hid hr
  have HN := Lib.hid hn
  have HRI := Lib.hid hR
  have HK := Lib.hid hK
  have HE := Lib.hid he
  have hln : n < 4294967296 := by omega
  have HCC := Lib.hid hc
  clear hr hn hR hK hl he hc
  go_enter Tryz.func92, Tryz.ntmps92
  go_wp2_with fail
  refine ED.out.mono ?_
  rintro r w2 ⟨E, A2, c2, rfl, hcu, hown, hf2⟩
  obtain ⟨N, hN⟩ : ∃ N, E.length = N := ⟨_, rfl⟩
  have hNb : N ≤ n := by have := hcu.le; rw [hN] at this; have := HN.out; omega
  rw [hN] at hown ⊢
  have hmk := fun W => run_mkF (P := Tryz.prog) sgcells seg0 62 65 (.agg #[.int .u64 0, .float .f64 0, .float .f64 0, .int .i64 0, .int .i64 0]) 5 40 Tryz.underlying62 info_seg rfl rfl (by decide) W (N : Int) N rfl (by omega) (by omega)
  have HEN := Lib.hid hN
  have HCU := Lib.hid hcu
  have HOWN := Lib.hid hown
  have HF2 := Lib.hid hf2
  clear hcu hown hf2 hN
  go_wp2_with fail
  obtain ⟨g, hg⟩ : ∃ g, g = w2.heap.size := ⟨_, rfl⟩
  obtain ⟨w3, hw3⟩ : ∃ w3, w3 = w2.alloc (.cells (arr ((List.replicate N seg0).flatMap sgcells)) 65) := ⟨_, rfl⟩
  have hb3 : Hid (Blk w3 g ((List.replicate N seg0).flatMap sgcells) 65) := by rw [hw3, hg]; exact Blk.new w2 _ _
  have hf3 : Hid (Fr w2 w3) := by rw [hw3]; exact (Fr.refl w2).alloc _
  rw [← hw3, ← hg]
  have HG : Hid (w2.heap.size = g) := hg.symm
  clear hw3 hg hmk
  go_loopw [8, 22] (fun vs v wr => ∃ (i s : Nat) (S : List Seg), vs = .int .i64 s ∧ v = .int .i64 i ∧ i ≤ N ∧ s ≤ n ∧ Hid (S.length = i) ∧ Hid (LevelOf (eps - 1) L 0 S s) ∧ Hid (Cuts (eps - 1) L s (E.drop i) L.length) ∧ Hid (Blk wr g ((S ++ List.replicate (N - i) seg0).flatMap sgcells) 65) ∧ Hid (Mv (one1 g) w3 wr)) (fun _ v _ => N - (intOf v).toNat)
  case atStart => exact ⟨0, 0, [], rfl, rfl, by omega, by omega, rfl, rfl, by rw [Hid]; simpa using HCU.out, by rw [Hid]; simpa using hb3.out, Mv.refl _ _⟩
  case round =>
    obtain ⟨i, s, S, rfl, rfl, hin, hsn, hSl, hlev, hcu, hb, hmv⟩ := hrel
    have hfr : Hid (Fr w2 wr) := (hf3.out).mv hmv.out (fun k hk => by rw [show k = g from hk, HG.out]; exact Nat.le_refl _)
    rcases Nat.lt_or_ge i N with hlt | hge
    · have g1 : decide (i < N) = true := decide_eq_true hlt
      have g0 : (i : Int) < (N : Int) := by omega
      have hiE : i < E.length := by have := HEN.out; omega
      obtain ⟨u, hu⟩ : ∃ u, E[i] = u := ⟨_, rfl⟩
      have hcu2 := hcu.out
      rw [List.drop_eq_getElem_cons hiE, hu] at hcu2
      obtain ⟨hco, hcu3⟩ := cuts_at hcu2
      obtain ⟨b, off, hA, hcc⟩ := (HOWN.out.rd.fr hfr.out).at (by rw [List.length_map]; omega)
      subst hA
      have x0 := hcc i (.int .i64 u) (by simp [hiE, hu, iv])
      have hsu : s < u := hco.1
      have hun : u ≤ n := by have := hco.2.1; have := HN.out; omega
      obtain ⟨A3, hA3, hA3b, hA3r⟩ := run_cut_lh (P := Tryz.prog) 57 50 1 Tryz.underlying57 (by kernel_rfl) A n c s u (s : Int) (u : Int) rfl rfl (by omega) (by have := HCC.out; omega) .i64 .i64
      have hrd3 : Hid (RdC wr A3 ((seg L s u).map uv)) := by
        have h1 := hA3r wr (L.map uv) (by rw [List.length_map, Nat.mul_one]; exact HN.out.symm) hun (HR.out.fr (HF2.out.trans hfr.out))
        rw [Nat.mul_one, Nat.mul_one, List.drop_take, ← seg_map] at h1
        exact h1
      have hsl := seg_len (L := L) (s := s) (t := u) (by omega) (by have := HN.out; omega)
      have MO := Lib.hid (mof_calls (seg L s u) A3 (u - s) (c - s) eps (s : Int) hsl.symm (by omega) (by rw [hsl]; omega) HE.out (seg_rise HRI.out s u) (seg_ok HK.out s u) hco.2.2.1 wr hrd3.out)
      have wi : IntKind.i64.wrap ((i : Int) + 1) = (i : Int) + 1 := wrap_i64_in _ (by omega) (by omega)
      have HCO := Lib.hid hco
      have HCU3 := Lib.hid hcu3
      clear hcu2 hco hcu3 hcc hA3b hA3r hu hcu hsl
      go_wp2_with fail
      refine MO.out.mono ?_
      rintro r w4 ⟨sg, rfl, hsg, hf4⟩
      have HSG := Lib.hid hsg
      have HF4 := Lib.hid hf4
      have hb4 : Hid (Blk w4 g ((S ++ List.replicate (N - i) seg0).flatMap sgcells) 65) := hb.out.fr hf4
      have z0 := hb4.out.frozen (i * 5)
      have z1 := hb4.out.frozen (i * 5 + 1)
      have z2 := hb4.out.frozen (i * 5 + 2)
      have z3 := hb4.out.frozen (i * 5 + 3)
      have z4 := hb4.out.frozen (i * 5 + 4)
      have hcell := fun j (hj : j < 5) => get_flat sgcells 5 sgcells_len (S ++ List.replicate (N - i) seg0) i seg0 j (by
        rw [List.getElem?_append_right (by rw [hSl.out]; exact Nat.le_refl _), hSl.out, Nat.sub_self]
        obtain ⟨k, hk⟩ : ∃ k, N - i = k + 1 := ⟨N - i - 1, by omega⟩
        rw [hk]; rfl) hj
      have c0 := hb4.out.cell (i * 5) _ (hcell 0 (by decide))
      have c1 := hb4.out.cell (i * 5 + 1) _ (hcell 1 (by decide))
      have c2 := hb4.out.cell (i * 5 + 2) _ (hcell 2 (by decide))
      have c3 := hb4.out.cell (i * 5 + 3) _ (hcell 3 (by decide))
      have c4 := hb4.out.cell (i * 5 + 4) _ (hcell 4 (by decide))
      clear hcell hf4 hsg
      unfold segVal
      go_wp2_with fail
      refine ⟨⟨i + 1, u, S ++ [sg], rfl, rfl, by omega, hun, ?_, hlev.out.snoc HCO.out HSG.out, HCU3.out, ?_, ?_⟩, by simp only [intOf]; omega⟩
      · rw [Hid, List.length_append, hSl.out]; rfl
      · have h1 := ((((hb4.out.set (i * 5) (.int .u64 sg.first)).set (i * 5 + 1) (.float .f64 sg.slope)).set (i * 5 + 2) (.float .f64 sg.inter)).set (i * 5 + 3) (.int .i64 sg.frm)).set (i * 5 + 4) (.int .i64 sg.upto)
        rw [set_row5 sgcells sgcells_len _ i sg _ _ _ _ _ (by rw [List.length_append, hSl.out, List.length_replicate]; omega) rfl] at h1
        obtain ⟨k, hk⟩ : ∃ k, N - i = k + 1 := ⟨N - i - 1, by omega⟩
        rw [hk, set_rep S k seg0 sg i hSl.out] at h1
        rw [Hid, show N - (i + 1) = k by omega]
        exact h1
      · exact (((((hmv.out.then HF4.out).set (p := ⟨g, i * 5, none⟩) (.inl rfl) _).set (p := ⟨g, i * 5 + 1, none⟩) (.inl rfl) _).set (p := ⟨g, i * 5 + 2, none⟩) (.inl rfl) _).set (p := ⟨g, i * 5 + 3, none⟩) (.inl rfl) _).set (p := ⟨g, i * 5 + 4, none⟩) (.inl rfl) _
    · obtain rfl : i = N := by omega
      have g1 : decide (i < i) = false := by simp
      have hcu2 : Hid (s = L.length) := by
        have := hcu.out
        rw [List.drop_of_length_le (by rw [HEN.out]; exact Nat.le_refl _)] at this
        exact this
      clear hcu
      go_wp2_with fail
      go_ret
      refine ⟨g, S, by rw [hSl.out]; rfl, ?_, ?_, ?_, HF2.out.trans hfr.out⟩
      · have := hlev.out; rw [hcu2.out] at this; exact this
      · have h1 := hb.out
        rw [Nat.sub_self, List.replicate_zero, List.append_nil] at h1
        exact h1
      · have := HF2.out.size; have := HG.out; omega
end Go.Proofs.YthjimnmgbcckjaaGreat
namespace Go.Proofs.YthjimnmgbcckjaaGreat
set_option maxRecDepth 100000
open Go.RowKit Go.Inc Go.Run

/-! ### plain -/
theorem seg_first {L : List Int} {s u : Nat} (h : s < u) : ky (seg L s u) 0 = ky L s := by rw [seg_ky (by omega)]; rfl
theorem level_first {e : Int} {L : List Int} (hR : Rise L) (hK : KeysOk L) : ∀ {S : List Seg} {s t : Nat}, LevelOf e L s S t → Rise (firstsOf S) ∧ (∀ x ∈ firstsOf S, s < L.length ∧ ky L s ≤ x) ∧ KeysOk (firstsOf S)
  | [], s, t, _ => ⟨List.Pairwise.nil, fun x hx => by simp [firstsOf] at hx, fun x hx => by simp [firstsOf] at hx⟩
  | x :: S, s, t, h => by
    obtain ⟨u, hc, hs, h2⟩ := h
    obtain ⟨r1, r2, r3⟩ := level_first hR hK h2
    have hsl : s < L.length := by have := hc.1; have := hc.2.1; omega
    have hx : x.first = ky L s := by rw [hs.hfirst, seg_first hc.1]
    have hlt : ∀ y ∈ firstsOf S, ky L s < y := by
      intro y hy
      obtain ⟨h3, h4⟩ := r2 y hy
      have := rise_lt hR hc.1 h3
      omega
    refine ⟨List.pairwise_cons.2 ⟨fun y hy => by show x.first < y; rw [hx]; exact hlt y hy, r1⟩, fun y hy => ⟨hsl, ?_⟩, fun y hy => ?_⟩
    · rcases List.mem_cons.1 hy with rfl | hy
      · show ky L s ≤ x.first; rw [hx]; exact Int.le_refl _
      · exact Int.le_of_lt (hlt y hy)
    · rcases List.mem_cons.1 hy with rfl | hy
      · show 0 ≤ x.first ∧ x.first < 18446744073709551616; rw [hx]; exact hK.ky hsl
      · exact r3 y hy
/-- How many segments there are. -/
theorem level_count {e : Int} (he : 0 ≤ e) {L : List Int} (hR : Rise L) : ∀ {S : List Seg} {s : Nat}, LevelOf e L s S L.length → 0 < S.length → ((S.length : Int) - 1) * (2 * e + 1) + 1 ≤ (L.length : Int) - s
  | [], s, _, h0 => by simp at h0
  | [x], s, h, _ => by
    obtain ⟨u, hc, hs, h2⟩ := h
    have : u = L.length := h2
    have := hc.1
    simp
    omega
  | x :: y :: S, s, h, _ => by
    obtain ⟨u, hc, hs, h2⟩ := h
    have ih := level_count he hR h2 (by simp)
    have hu : u < L.length := by
      obtain ⟨v, hc2, _, _⟩ := h2
      have := hc2.1; have := hc2.2.1; omega
    have h3 := hc.long hR hu
    have e1 : (((x :: y :: S).length : Int) - 1) * (2 * e + 1) = (((y :: S).length : Int) - 1) * (2 * e + 1) + (2 * e + 1) := by
      simp only [List.length_cons]
      push_cast
      grind
    rw [e1]
    omega
theorem level_pos {e : Int} {L : List Int} (h0 : 0 < L.length) {S : List Seg} (h : LevelOf e L 0 S L.length) : 0 < S.length := by
  cases S with
  | nil => have : 0 = L.length := h; omega
  | cons x S => simp
theorem level_less {e : Int} (he : 1 ≤ e) {L : List Int} (hR : Rise L) (h0 : 0 < L.length) {S : List Seg} (h : LevelOf e L 0 S L.length) : S.length = 1 ∨ S.length < L.length := by
  have h1 := level_count (by omega) hR h (level_pos h0 h)
  rcases Nat.lt_or_ge 1 S.length with h2 | h2
  · right
    have h3 : ((S.length : Int) - 1) * 3 ≤ ((S.length : Int) - 1) * (2 * e + 1) := Int.mul_le_mul_of_nonneg_left (by omega) (by omega)
    omega
  · left
    have := level_pos h0 h
    omega
/-- The levels over keys. -/
def LevelsOf (e : Int) : List Int → List (List Seg) → Prop
  | K, [] => K = []
  | K, S :: Ss => 0 < K.length ∧ LevelOf e K 0 S K.length ∧ (S.length = 1 → Ss = []) ∧ (S.length ≠ 1 → LevelsOf e (firstsOf S) Ss)
/-- Slices of segments, each in a block of its own. -/
def RowsB (w : World) (base : Nat) : List Value → List (List Seg) → Prop
  | [], [] => True
  | v :: vs, S :: Ss => (∃ g, v = .slice (some ⟨g, 0, none⟩) S.length S.length ∧ base ≤ g ∧ Blk w g (S.flatMap sgcells) 65) ∧ RowsB w base vs Ss
  | _, _ => False
theorem RowsB.mv {S : Nat → Prop} {w w' : World} {base : Nat} : ∀ {vs : List Value} {Ss : List (List Seg)}, RowsB w base vs Ss → Mv S w w' → (∀ k, S k → ∀ cs, ¬ Blk w k cs 65) → RowsB w' base vs Ss
  | [], [], _, _, _ => trivial
  | v :: vs, S :: Ss, h, hm, hS => by
    obtain ⟨⟨g, h1, h2, h3⟩, h4⟩ := h
    exact ⟨⟨g, h1, h2, h3.mv hm (fun hs => hS g hs _ h3)⟩, RowsB.mv h4 hm hS⟩
  | [], _ :: _, h, _, _ => h.elim
  | _ :: _, [], h, _, _ => h.elim
theorem RowsB.fr {w w' : World} {base : Nat} {vs : List Value} {Ss : List (List Seg)} (h : RowsB w base vs Ss) (hf : Fr w w') : RowsB w' base vs Ss := h.mv (S := none0) (Mv.of_fr hf) (fun _k h => h.elim)
theorem RowsB.snoc {w : World} {base : Nat} : ∀ {vs : List Value} {Ss : List (List Seg)} {g : Nat} {S : List Seg}, RowsB w base vs Ss → base ≤ g → Blk w g (S.flatMap sgcells) 65 → RowsB w base (vs ++ [.slice (some ⟨g, 0, none⟩) S.length S.length]) (Ss ++ [S])
  | [], [], g, _S, _, h1, h2 => ⟨⟨g, rfl, h1, h2⟩, trivial⟩
  | _v :: _vs, _T :: _Ss, _g, _S, h, h1, h2 => ⟨h.1, RowsB.snoc h.2 h1 h2⟩
  | [], _ :: _, _, _, h, _, _ => h.elim
  | _ :: _, [], _, _, h, _, _ => h.elim
theorem RowsB.len {w : World} {base : Nat} : ∀ {vs : List Value} {Ss : List (List Seg)}, RowsB w base vs Ss → vs.length = Ss.length
  | [], [], _ => rfl
  | v :: vs, S :: Ss, h => by simp [RowsB.len h.2]
  | [], _ :: _, h => h.elim
  | _ :: _, [], h => h.elim
theorem own_not_blk {w : World} {base : Nat} {e : TypeId} {size : Nat} {A : Option Addr} {n c : Nat} {xs : List Value} (h : Own w base e size A n c xs) {t : TypeId} (he : e ≠ t) : ∀ k, ablk A = some k → ∀ cs, ¬ Blk w k cs t := by
  intro k hk cs hb
  obtain ⟨cs', h1⟩ := own_ty h hk
  unfold Blk at hb
  rw [hb] at h1
  injection h1 with h1
  injection h1 with _ h2 _
  exact he h2.symm
theorem info_row : (Tryz.prog.info? 62).map (fun i => (i.zero, i.size, i.bytes)) = some (some (.slice none 0 0), 1, 24) := by kernel_rfl

set_option maxHeartbeats 4000000 in
theorem build_calls (L : List Int) (A : Option Addr) (n c : Nat) (eps : Int) (hn : n = L.length) (hc : n ≤ c) (hl : L.length < 4294967296) (he : 2 ≤ eps ∧ eps ≤ 64) (hR : Rise L) (hK : KeysOk L) (w : World) (hr : RdC w A (L.map uv)) :
    Calls Tryz.prog 62 #[.slice A n c, .int .i64 eps] w fun r w' => ∃ (A' : Option Addr) (c' : Nat) (vs : List Value) (Ss : List (List Seg)), r = .returned (.tuple #[.slice A' Ss.length c', .int .i64 0]) ∧ LevelsOf (eps - 1) L Ss ∧ Own w' w.heap.size 62 1 A' Ss.length c' vs ∧ RowsB w' w.heap.size vs Ss ∧ Fr w w' := by
  have RIS := Lib.hid (rising_calls L A n c hn (by omega) w hr)
  rw [decide_eq_true hR] at RIS
  have HR := Lib.hid hr
  have HN := Lib.hid hn
  have HRI := Lib.hid hR
  have HK := Lib.hid hK
  have HE := Lib.hid he
  have HLL := Lib.hid hl
  have hnB : n < 4294967296 := by omega
  have HCC := Lib.hid hc
  have d1 : decide (eps < 2) = false := decide_eq_false (by omega)
  have d2 : decide (eps > 64) = false := decide_eq_false (by omega)
  clear hr hn hR hK hl he hc
  go_enter Tryz.func62, Tryz.ntmps62
  go_wp2_with fail
  refine RIS.out.mono ?_
  rintro r w1 ⟨rfl, hf1⟩
  have HF1 := Lib.hid hf1
  clear hf1
  go_wp2_with fail
  go_loopw [0, 6] (fun vk vl wr => ∃ (K : List Int) (Ak : Option Addr) (nk ck : Nat) (Al : Option Addr) (cl nl : Nat) (vs : List Value) (Ss : List (List Seg)), vk = .slice Ak nk ck ∧ vl = .slice Al nl cl ∧ Hid (nk = K.length) ∧ nk ≤ ck ∧ Hid (nl = Ss.length) ∧ nl + nk ≤ n ∧ Hid (Rise K) ∧ Hid (KeysOk K) ∧ Hid (RdC wr Ak (K.map uv)) ∧
      Hid (∀ rest, LevelsOf (eps - 1) K rest → LevelsOf (eps - 1) L (Ss ++ rest)) ∧ Hid (Own wr w.heap.size 62 1 Al nl cl vs) ∧ Hid (RowsB wr w.heap.size vs Ss) ∧ Hid (Fr w wr)) (fun vk _ _ => match vk with | .slice _ n _ => n | _ => 0)
  case atStart => exact ⟨L, A, n, c, none, 0, 0, [], [], rfl, rfl, HN.out, HCC.out, rfl, by omega, HRI.out, HK.out, HR.out.fr HF1.out, fun rest h => h, Own.nil _ _ _ _, trivial, HF1.out⟩
  case round =>
    obtain ⟨K, Ak, nk, ck, Al, cl, nl, vs, Ss, rfl, rfl, hnk, hck, hnl, hsum, hKr, hKk, hKrd, hrest, hown, hrows, hf⟩ := hrel
    by_cases h0 : 0 < nk
    · have g1 : decide (0 < nk) = true := decide_eq_true h0
      have g2 : decide ((nk : Int) > 0) = true := decide_eq_true (by omega)
      have g3 : (0 : Int) < (nk : Int) := by omega
      have hKl : nk < 4294967296 := by have := HLL.out; have := HN.out; omega
      have OV := Lib.hid (over_calls K Ak nk ck eps hnk.out hck (by have := hnk.out; omega) HE.out hKr.out hKk.out wr hKrd.out)
      go_wp2_with fail
      refine OV.out.mono ?_
      rintro r w4 ⟨g, S, rfl, hlev, hblk, hgs, hf4⟩
      obtain ⟨SL, hSL⟩ : ∃ n, S.length = n := ⟨_, rfl⟩
      rw [hSL]
      have HSL := Lib.hid hSL
      have HLEV := Lib.hid hlev
      have HBLK := Lib.hid hblk
      have HF4 := Lib.hid hf4
      have HGB : Hid (w.heap.size ≤ g) := by rw [Hid]; have := hf.out.size; omega
      have hless := level_less (show 1 ≤ eps - 1 by have := HE.out; omega) hKr.out (by have := hnk.out; omega) hlev
      rw [hSL] at hless
      have HLESS := Lib.hid hless
      have hSb : SL ≤ nk := by have := hnk.out; omega
      clear hlev hblk hgs hf4 hSL hless
      go_wp2_with (at_builtin; refine gate ?_)
      refine gate_app rfl _ _ 39 rfl 62 (.slice none 0 0) 1 24 Tryz.underlying39 info_row rfl (by omega) (by omega) w.heap.size Al nl cl vs (some ⟨w4.heap.size, 0, none⟩) 1 1 [.slice (some ⟨g, 0, none⟩) SL SL] (by rfl) (by rfl)
        ((hown.out.fr HF4.out).fr ((Fr.refl w4).alloc _)) rfl (RdC.blk (Blk.new w4 _ _)) (by intro u hu; simp at hu; subst hu; rfl) (by omega) (by have := hf.out.size; have := HF4.out.size; simp; omega) ?_
      intro A5 c5 w5 hown5 hgr hat
      have HM5 : Hid (Mv (fun k => ablk Al = some k) w4 w5) := ((Mv.of_fr ((Fr.refl w4).alloc _)).grown hgr.out (fun k hk => .inl hk))
      have HF5 : Hid (Fr w w5) := (hf.out.trans HF4.out).mv HM5.out (fun k hk => (hown.out.lt k hk).1)
      have hnb := own_not_blk (hown.out.fr HF4.out) (t := 65) (by decide)
      have HROWS : Hid (RowsB w5 w.heap.size (vs ++ [.slice (some ⟨g, 0, none⟩) SL SL]) (Ss ++ [S])) := by
        have h1 := ((hrows.out.fr HF4.out).snoc HGB.out HBLK.out).mv HM5.out hnb
        rw [HSL.out] at h1
        exact h1
      have HB5 : Hid (Blk w5 g (S.flatMap sgcells) 65) := HBLK.out.mv HM5.out (fun h => hnb g h _ HBLK.out)
      have HOWN5 := hown5
      have HNL : Hid (nl + 1 = (Ss ++ [S]).length) := by rw [Hid, List.length_append, ← hnl.out]; rfl
      clear hown5 hgr hat hnb
      by_cases h1 : SL = 1
      · have g4 : ((SL : Int) == 1) = true := by rw [beq_iff_eq]; omega
        have HPL : Hid (LevelsOf (eps - 1) L (Ss ++ [S])) := hrest.out [S] ⟨by have := hnk.out; omega, HLEV.out, fun _ => rfl, fun h => absurd (HSL.out.trans h1) h⟩
        subst h1
        go_wp2_with fail
        go_ret2
        refine ⟨A5, c5, vs ++ [.slice (some ⟨g, 0, none⟩) 1 1], Ss ++ [S], ?_, HPL.out, ?_, HROWS.out, HF5.out⟩
        · rw [← HNL.out]; rfl
        · rw [← HNL.out]; exact HOWN5.out
      · have g4 : ((SL : Int) == 1) = false := by rw [beq_eq_false_iff_ne]; omega
        have g5 : ¬ (SL : Int) = 1 := by omega
        have FI := Lib.hid (firsts_calls S (some ⟨g, 0, none⟩) SL SL HSL.out.symm (by rw [HSL.out]; omega) w5 (RdC.blk HB5.out))
        go_wp2_with fail
        refine FI.out.mono ?_
        rintro r w6 ⟨g6, rfl, hb6, hg6, hf6⟩
        have HB6 := Lib.hid hb6
        have HF6 := Lib.hid hf6
        have hlf := level_first hKr.out hKk.out HLEV.out
        have HLF := Lib.hid hlf
        have HREST : Hid (∀ rest, LevelsOf (eps - 1) (firstsOf S) rest → LevelsOf (eps - 1) L ((Ss ++ [S]) ++ rest)) := by
          intro rest h
          rw [List.append_assoc]
          exact hrest.out _ ⟨by have := hnk.out; omega, HLEV.out, fun h2 => absurd (HSL.out.symm.trans h2) h1, fun _ => h⟩
        have hlt : SL < nk := by rcases HLESS.out with h | h; exact absurd h h1; have := hnk.out; omega
        clear hb6 hf6 hg6 hlf
        go_wp2_with fail
        exact ⟨⟨firstsOf S, some ⟨g6, 0, none⟩, SL, SL, A5, c5, nl + 1, (vs ++ [Value.slice (some ⟨g, 0, none⟩) SL SL] : List Value), Ss ++ [S], rfl, rfl, by rw [Hid]; unfold firstsOf; rw [List.length_map]; exact HSL.out.symm, Nat.le_refl _, HNL.out, by omega, HLF.out.1, HLF.out.2.2, RdC.blk HB6.out, HREST.out, Lib.hid (HOWN5.out.fr HF6.out), Lib.hid (HROWS.out.fr HF6.out), HF5.out.trans HF6.out⟩, hlt⟩
    · obtain rfl : nk = 0 := by omega
      have hK0 : Hid (LevelsOf (eps - 1) L Ss) := by
        have := hrest.out [] (List.eq_nil_of_length_eq_zero hnk.out.symm)
        rwa [List.append_nil] at this
      have g1 : decide (0 < 0) = false := by decide
      clear hrest
      go_wp2_with fail
      go_ret2
      refine ⟨Al, cl, vs, Ss, ?_, hK0.out, ?_, hrows.out, hf.out⟩
      · rw [← hnl.out]; rfl
      · rw [← hnl.out]; exact hown.out
end Go.Proofs.YthjimnmgbcckjaaGreat
namespace Go.Proofs.YthjimnmgbcckjaaGreat
set_option maxRecDepth 100000
open Go.RowKit Go.Inc Go.Run
attribute [local go_sem] run_store_float

/-- What a level is given up by. -/
def wrongV (code : Int) : Value := .iface 165 (.agg #[.int .i64 code])
theorem must_ok (code : Int) (w : World) : Calls Tryz.prog 116 #[.bool true, .int .i64 code] w fun e w' => e = .returned (.tuple #[]) ∧ w = w' := by
  go_enter Tryz.func116, Tryz.ntmps116
  go_wp2_with fail
  go_end0
  exact ⟨rfl, rfl⟩
theorem must_no (code : Int) (w : World) : Calls Tryz.prog 116 #[.bool false, .int .i64 code] w fun e w' => e = .panicked [{ v := wrongV code, recovered := false }] ∧ w = w' := by
  go_enter Tryz.func116, Tryz.ntmps116
  go_wp2_with fail
  exact ⟨rfl, rfl, rfl⟩
theorem catch_idle (p : Addr) (w : World) : CallsD Tryz.prog 115 #[.pointer (some p)] .returning w fun e u' w' => e = .returned (.tuple #[]) ∧ u' = .returning ∧ w' = w := by
  refine callsD_of_wpS Tryz.func115 rfl fun c₀ cs hu => ?_
  apply wpS_seq
  apply wpS_region
  simp [wpOpsS, go_sem, recoverD, hu, Tryz.ntmps115, Exit.thenS, Array.replicate, List.replicate]
  refine wpS_of_wp ?_
  go_wp2_with fail
  cases c₀
  simp_all [bodyPostS, results, Tryz.results115]
/-- The result's variable. -/
def IsCode (w : World) (g : Nat) (code : Int) : Prop := w.heap[g]? = some (.cells #[.int .i64 code] 35 (0, 0))
theorem catch_wrong (g : Nat) (code x : Int) (older : List PanicEntry) (w : World) (hb : w.heap[g]? = some (.cells #[.int .i64 x] 35 (0, 0))) :
    CallsD Tryz.prog 115 #[.pointer (some ⟨g, 0, none⟩)] (.panicking ({ v := wrongV code, recovered := false } :: older)) w fun e u' w' => e = .returned (.tuple #[]) ∧ u' = .panicking ({ v := wrongV code, recovered := true } :: older) ∧ IsCode w' g code ∧ Mv (one1 g) w w' := by
  have hta : ∀ w, (Instr.typeAssert (.iface 165 (.agg #[.int .i64 code])) 20 165 true).run Tryz.prog w = .ok (.tuple #[.agg #[.int .i64 code], .bool true]) w := fun _ => by kernel_rfl
  have hb0 := heap_alloc_new w (.cells #[.int .i64 code] 165)
  have hgl := blk_lt hb
  have hne : ¬ g = w.heap.size := by omega
  have hne2 : ¬ w.heap.size = g := by omega
  have hba : (w.alloc (.cells #[.int .i64 code] 165)).heap[g]? = some (.cells #[.int .i64 x] 35 (0, 0)) := ((Fr.refl w).alloc _).blk hb
  have c1 : (w.alloc (.cells #[.int .i64 code] 165)).cell? ⟨g, 0, none⟩ = some (.int .i64 x) := by rw [blk_cell hba]; rfl
  have z1 := blk_frozen hba 0
  have c2 : w.cell? ⟨g, 0, none⟩ = some (.int .i64 x) := by rw [blk_cell hb]; rfl
  have z2 := blk_frozen hb 0
  have HB2 : IsCode ((w.setCell ⟨g, 0, none⟩ (.int .i64 code)).alloc (.cells #[.int .i64 code] 165)) g code := ((Fr.refl (w.setCell ⟨g, 0, none⟩ (.int .i64 code))).alloc _).blk (blk_set hb 0 (.int .i64 code))
  clear hba hb0 hb
  refine callsD_of_wpS Tryz.func115 rfl fun c₀ cs hu => ?_
  apply wpS_seq
  apply wpS_region
  simp [wpOpsS, go_sem, recoverD, hu, Tryz.ntmps115, Exit.thenS, Array.replicate, List.replicate, wrongV]
  refine wpS_of_wp ?_
  go_wp2_with fail
  cases c₀
  simp_all [bodyPostS, results, Tryz.results115]
  exact ((Mv.refl (one1 g) w).set (p := ⟨g, 0, none⟩) (.inl rfl) _).alloc _

/-! ### MaxHeight -/
/-- How many levels there can be. -/
def maxH (e n : Nat) : Nat := if n < 1 then 0 else if n + 1 ≤ 2 * e then 1 else if _h : n / e + 1 < n then 1 + maxH e (n / e + 1) else 1
termination_by n
theorem div_less {e n : Nat} (he : 2 ≤ e) (h : 2 * e < n + 1) : n / e + 1 < n := by
  have h1 : n / e ≤ n / 2 := Nat.div_le_div_left he (by decide)
  omega
theorem maxH_step {e n : Nat} (he : 2 ≤ e) (h : 2 * e < n + 1) : maxH e n = 1 + maxH e (n / e + 1) := by
  rw [maxH, if_neg (by omega), if_neg (by omega), dif_pos (div_less he h)]
theorem maxH_one {e n : Nat} (h0 : 0 < n) (h : n + 1 ≤ 2 * e) : maxH e n = 1 := by
  rw [maxH, if_neg (by omega), if_pos h]
theorem maxH_pos {e n : Nat} (h0 : 0 < n) : 1 ≤ maxH e n := by
  rw [maxH, if_neg (by omega)]
  split
  · omega
  · split <;> omega
theorem maxH_mono {e : Nat} (he : 2 ≤ e) : ∀ (m n : Nat), n ≤ m → maxH e n ≤ maxH e m := by
  intro m
  induction m using Nat.strongRecOn with
  | _ m ih =>
    intro n h
    rcases Nat.eq_zero_or_pos n with h0 | h0
    · subst h0
      have : maxH e 0 = 0 := by rw [maxH, if_pos (by decide)]
      omega
    · by_cases h1 : n + 1 ≤ 2 * e
      · rw [maxH_one h0 h1]
        exact maxH_pos (by omega)
      · have hm : 2 * e < m + 1 := by omega
        rw [maxH_step he (by omega), maxH_step he hm]
        have := ih (m / e + 1) (div_less he hm) (n / e + 1) (by have := Nat.div_le_div_right (c := e) h; omega)
        omega
theorem maxH_le {e : Nat} (he : 2 ≤ e) : ∀ n, maxH e n ≤ n := by
  intro n
  induction n using Nat.strongRecOn with
  | _ n ih =>
    rcases Nat.eq_zero_or_pos n with h0 | h0
    · subst h0; rw [maxH, if_pos (by decide)]; exact Nat.le_refl _
    · by_cases h1 : n + 1 ≤ 2 * e
      · rw [maxH_one h0 h1]; omega
      · have hl := div_less he (show 2 * e < n + 1 by omega)
        rw [maxH_step he (by omega)]
        have := ih _ hl
        omega
theorem maxh_calls (e : Nat) (he : 2 ≤ e ∧ e ≤ 64) : ∀ (n : Nat), n ≤ 4294967296 → ∀ w, Calls Tryz.prog 117 #[.int .i64 (n : Nat), .int .i64 (e : Nat)] w fun r w' => r = .returned (.int .i64 (maxH e n : Nat)) ∧ w = w' := by
  intro n
  induction n using Nat.strongRecOn with
  | _ n ih =>
    intro hn w
    have d2 : decide (e < 2) = false := decide_eq_false (by omega)
    have d3 : decide (64 < e) = false := decide_eq_false (by omega)
    have d2i : decide ((e : Int) < 2) = false := decide_eq_false (by omega)
    have d3i : decide ((e : Int) > 64) = false := decide_eq_false (by omega)
    have w1 : IntKind.i64.wrap (2 * (e : Int)) = 2 * (e : Int) := wrap_i64_in _ (by omega) (by omega)
    have w2 : IntKind.i64.wrap (2 * (e : Int) - 1) = 2 * (e : Int) - 1 := wrap_i64_in _ (by omega) (by omega)
    rcases Nat.eq_zero_or_pos n with h0 | h0
    · subst h0
      have hp : Hid (maxH e 0 = 0) := by rw [Hid, maxH, if_pos (by decide)]
      clear ih
      go_enter Tryz.func117, Tryz.ntmps117
      go_wp2_with fail
      go_ret
      exact ⟨by rw [hp.out]; rfl, rfl⟩
    · have d1 : decide (n < 1) = false := decide_eq_false (by omega)
      have d1i : decide ((n : Int) < 1) = false := decide_eq_false (by omega)
      by_cases h1 : n + 1 ≤ 2 * e
      · have hp : Hid (maxH e n = 1) := maxH_one h0 h1
        have d4 : decide ((n : Int) ≤ 2 * (e : Int) - 1) = true := decide_eq_true (by omega)
        clear ih
        go_enter Tryz.func117, Tryz.ntmps117
        go_wp2_with fail
        go_ret
        exact ⟨by rw [hp.out]; rfl, rfl⟩
      · have hl := div_less he.1 (show 2 * e < n + 1 by omega)
        have hp : Hid (maxH e n = 1 + maxH e (n / e + 1)) := maxH_step he.1 (by omega)
        have d4 : decide ((n : Int) ≤ 2 * (e : Int) - 1) = false := decide_eq_false (by omega)
        obtain ⟨m, hm⟩ : ∃ m, n / e + 1 = m := ⟨_, rfl⟩
        have IH := Lib.hid (ih (n / e + 1) hl (by omega))
        rw [hm] at IH hp
        have hml := maxH_le he.1 m
        obtain ⟨R, hR⟩ : ∃ R, maxH e m = R := ⟨_, rfl⟩
        rw [hR] at IH hp hml
        have n0 : ¬ (e : Int) = 0 := by omega
        obtain ⟨q, hq⟩ : ∃ q, n / e = q := ⟨_, rfl⟩
        have hqn := Nat.div_le_self n e
        rw [hq] at hm hqn
        have w3a : (n : Int) / (e : Int) = (q : Int) := by rw [← Int.natCast_ediv, hq]
        have w3 : IntKind.i64.wrap (q : Int) = (q : Int) := wrap_i64_in _ (by omega) (by omega)
        have w4 : IntKind.i64.wrap ((q : Int) + 1) = ((m : Nat) : Int) := by rw [wrap_i64_in _ (by omega) (by omega)]; omega
        have w5 : IntKind.i64.wrap (1 + ((R : Nat) : Int)) = ((1 + R : Nat) : Int) := by rw [wrap_i64_in _ (by omega) (by omega)]; omega
        clear ih hl hR hml hm hq hqn
        go_enter Tryz.func117, Tryz.ntmps117
        go_wp2_with fail
        refine (IH.out _).mono ?_
        rintro r w2 ⟨rfl, rfl⟩
        go_wp2_with fail
        go_ret
        exact ⟨by rw [hp.out]; rfl, rfl⟩
/-! ### tiles -/
def tilesOk : List Seg → Int → Int → Bool
  | [], at', n => decide (at' = n)
  | s :: S, at', n => decide (s.frm = at' ∧ at' < s.upto ∧ s.upto ≤ n) && tilesOk S s.upto n
/-- How a check goes on, or gives up. -/
def Gives (ok : Bool) (code : Int) (e : Ending) : Prop := (ok = true ∧ e = .returned (.tuple #[])) ∨ (ok = false ∧ e = .panicked [{ v := wrongV code, recovered := false }])

set_option maxHeartbeats 2000000 in
theorem tiles_calls (S : List Seg) (A : Option Addr) (N c : Nat) (n : Int) (hN : N = S.length) (hl : N ≤ 4294967296) (hn : 0 ≤ n ∧ n ≤ 4294967296) (w : World) (hr : RdC w A (S.flatMap sgcells)) :
    Calls Tryz.prog 118 #[.slice A N c, .int .i64 n] w fun e w' => Gives (tilesOk S 0 n) 82 e ∧ Fr w w' := by
  have HR := Lib.hid hr
  have HN := Lib.hid hN
  clear hr hN
  go_enter Tryz.func118, Tryz.ntmps118
  go_wp2_with fail
  go_loopw [4, 9] (fun va v wr => ∃ (i : Nat) (at' : Int), va = .int .i64 at' ∧ v = .int .i64 i ∧ i ≤ N ∧ (0 ≤ at' ∧ at' ≤ n) ∧ Hid (tilesOk S 0 n = tilesOk (S.drop i) at' n) ∧ Hid (Fr w wr)) (fun _ v _ => N - (intOf v).toNat)
  case atStart => exact ⟨0, 0, rfl, rfl, by omega, by omega, by rw [Hid, List.drop_zero], Fr.refl _⟩
  case round =>
    obtain ⟨i, at', rfl, rfl, hin, hat, ht, hf⟩ := hrel
    rcases Nat.lt_or_ge i N with hlt | hge
    · have g1 : decide (i < N) = true := decide_eq_true hlt
      have g0 : (i : Int) < (N : Int) := by omega
      obtain ⟨b, off, hA, hc⟩ := rdc_seg (HR.out.fr hf.out) (by have := HN.out; omega)
      subst hA
      have hiS : i < S.length := by have := HN.out; omega
      obtain ⟨x0, x1, x2, x3, x4⟩ := hc i hiS
      obtain ⟨s, hs⟩ : ∃ s, S[i] = s := ⟨_, rfl⟩
      rw [hs] at x0 x1 x2 x3 x4
      have ht2 := ht.out
      rw [List.drop_eq_getElem_cons hiS, hs] at ht2
      have HT : Hid (tilesOk S 0 n = (decide (s.frm = at' ∧ at' < s.upto ∧ s.upto ≤ n) && tilesOk (S.drop (i + 1)) s.upto n)) := ht2
      have wi : IntKind.i64.wrap ((i : Int) + 1) = (i : Int) + 1 := wrap_i64_in _ (by omega) (by omega)
      have hba := heap_alloc_new wr (.cells #[.int .u64 s.first, .float .f64 s.slope, .float .f64 s.inter, .int .i64 s.frm, .int .i64 s.upto] 65)
      obtain ⟨y0, y1, y2, y3, y4⟩ := cells5 hba
      have HF2 : Hid (Fr w (wr.alloc (.cells #[.int .u64 s.first, .float .f64 s.slope, .float .f64 s.inter, .int .i64 s.frm, .int .i64 s.upto] 65))) := hf.out.alloc _
      have MN := Lib.hid (must_no 82)
      have MY := Lib.hid (must_ok 82)
      clear hc hs ht2 ht hba
      by_cases c1 : s.frm = at'
      · have e1 : (s.frm == at') = true := by rw [beq_iff_eq]; exact c1
        by_cases c2 : at' < s.upto
        · have e2 : decide (s.upto > at') = true := decide_eq_true c2
          by_cases c3 : s.upto ≤ n
          · have e3 : decide (s.upto ≤ n) = true := decide_eq_true c3
            have HT2 : Hid (tilesOk S 0 n = tilesOk (S.drop (i + 1)) s.upto n) := by
              rw [Hid, HT.out, decide_eq_true ⟨c1, c2, c3⟩]; rfl
            have hup : 0 ≤ s.upto ∧ s.upto ≤ n := by omega
            clear HT c1
            go_wp2_with fail
            refine (MY.out _).mono ?_
            rintro e w2 ⟨rfl, rfl⟩
            go_wp2_with fail
            exact ⟨⟨i + 1, s.upto, rfl, rfl, by omega, hup, HT2.out, HF2.out⟩, by simp only [intOf]; omega⟩
          · have e3 : decide (s.upto ≤ n) = false := decide_eq_false c3
            have HT2 : Hid (tilesOk S 0 n = false) := by rw [Hid, HT.out, decide_eq_false (fun h => c3 h.2.2)]; rfl
            clear HT c1
            go_wp2_with fail
            refine (MN.out _).mono ?_
            rintro e w2 ⟨rfl, rfl⟩
            go_wp2_with fail
            exact ⟨rfl, .inr ⟨HT2.out, rfl⟩, HF2.out⟩
        · have e2 : decide (s.upto > at') = false := decide_eq_false c2
          have HT2 : Hid (tilesOk S 0 n = false) := by rw [Hid, HT.out, decide_eq_false (fun h => c2 h.2.1)]; rfl
          clear HT c1
          go_wp2_with fail
          refine (MN.out _).mono ?_
          rintro e w2 ⟨rfl, rfl⟩
          go_wp2_with fail
          exact ⟨rfl, .inr ⟨HT2.out, rfl⟩, HF2.out⟩
      · have e1 : (s.frm == at') = false := by rw [beq_eq_false_iff_ne]; exact c1
        have HT2 : Hid (tilesOk S 0 n = false) := by rw [Hid, HT.out, decide_eq_false (fun h => c1 h.1)]; rfl
        clear HT
        go_wp2_with fail
        refine (MN.out _).mono ?_
        rintro e w2 ⟨rfl, rfl⟩
        go_wp2_with fail
        exact ⟨rfl, .inr ⟨HT2.out, rfl⟩, HF2.out⟩
    · obtain rfl : i = N := by omega
      have g1 : decide (i < i) = false := by simp
      have ht2 := ht.out
      rw [List.drop_of_length_le (by rw [← HN.out]; exact Nat.le_refl _)] at ht2
      have HT : Hid (tilesOk S 0 n = decide (at' = n)) := ht2
      have MN := Lib.hid (must_no 82)
      have MY := Lib.hid (must_ok 82)
      clear ht2 ht
      by_cases c : at' = n
      · have e1 : (at' == n) = true := by rw [beq_iff_eq]; exact c
        have HT2 : Hid (tilesOk S 0 n = true) := by rw [Hid, HT.out, decide_eq_true c]
        clear HT c
        go_wp2_with fail
        refine (MY.out _).mono ?_
        rintro e w2 ⟨rfl, rfl⟩
        go_wp2_with fail
        go_end0
        exact ⟨.inl ⟨HT2.out, rfl⟩, hf.out⟩
      · have e1 : (at' == n) = false := by rw [beq_eq_false_iff_ne]; exact c
        have HT2 : Hid (tilesOk S 0 n = false) := by rw [Hid, HT.out, decide_eq_false c]
        clear HT
        go_wp2_with fail
        refine (MN.out _).mono ?_
        rintro e w2 ⟨rfl, rfl⟩
        go_wp2_with fail
        exact ⟨rfl, .inr ⟨HT2.out, rfl⟩, hf.out⟩
end Go.Proofs.YthjimnmgbcckjaaGreat
