/- Parts of this proof, one behind the other: Rg1, Rg2, Rg3, Rg4, Rh0, Rh1, Rh2. -/
import Derived.StillTail
import Derived.IntWalk
import Derived.WalkMore
import Derived.Test.YthjimnmgbcckjaaGreatQN
namespace Go.Run
theorem mul_lt32 {a b : Int} (ha : 0 ≤ a ∧ a < 4294967296) (hb : 0 ≤ b ∧ b < 4294967296) : 0 ≤ a * b ∧ a * b ≤ 18446744065119617025 := by
  have h1 := Int.mul_nonneg ha.1 hb.1
  have h2 : a * b ≤ 4294967295 * b := Int.mul_le_mul_of_nonneg_right (by omega) hb.1
  omega
/-- A product by halves. -/
theorem whole_plain {a b : Int} (ha : 0 ≤ a ∧ a < 18446744073709551616) (hb : 0 ≤ b ∧ b < 18446744073709551616) :
    (IntKind.u64.wrap (IntKind.u64.wrap (IntKind.u64.wrap (a / 4294967296 * (b / 4294967296)) + IntKind.u64.wrap ((IntKind.u64.wrap (IntKind.u64.wrap (a / 4294967296 * (b % 4294967296)) + IntKind.u64.wrap ((IntKind.u64.wrap (a % 4294967296 * (b % 4294967296))).tdiv 4294967296))).tdiv 4294967296)) +
      IntKind.u64.wrap ((IntKind.u64.wrap (IntKind.u64.wrap (a % 4294967296 * (b / 4294967296)) + (IntKind.u64.wrap (IntKind.u64.wrap (a / 4294967296 * (b % 4294967296)) + IntKind.u64.wrap ((IntKind.u64.wrap (a % 4294967296 * (b % 4294967296))).tdiv 4294967296))).tmod 4294967296)).tdiv 4294967296))) = a * b / 18446744073709551616 ∧
    (IntKind.u64.wrap (IntKind.u64.wrap (IntKind.u64.wrap (IntKind.u64.wrap (a % 4294967296 * (b / 4294967296)) + (IntKind.u64.wrap (IntKind.u64.wrap (a / 4294967296 * (b % 4294967296)) + IntKind.u64.wrap ((IntKind.u64.wrap (a % 4294967296 * (b % 4294967296))).tdiv 4294967296))).tmod 4294967296) * 4294967296) + (IntKind.u64.wrap (a % 4294967296 * (b % 4294967296))).tmod 4294967296)) = a * b % 18446744073709551616 := by
  obtain ⟨a0, ha0⟩ : ∃ a0, a % 4294967296 = a0 := ⟨_, rfl⟩
  obtain ⟨a1, ha1⟩ : ∃ a1, a / 4294967296 = a1 := ⟨_, rfl⟩
  obtain ⟨b0, hb0⟩ : ∃ b0, b % 4294967296 = b0 := ⟨_, rfl⟩
  obtain ⟨b1, hb1⟩ : ∃ b1, b / 4294967296 = b1 := ⟨_, rfl⟩
  rw [ha0, ha1, hb0, hb1]
  have m00 := mul_lt32 (a := a0) (b := b0) (by omega) (by omega)
  have m10 := mul_lt32 (a := a1) (b := b0) (by omega) (by omega)
  have m01 := mul_lt32 (a := a0) (b := b1) (by omega) (by omega)
  have m11 := mul_lt32 (a := a1) (b := b1) (by omega) (by omega)
  have hp : a * b = a1 * b1 * 18446744073709551616 + (a1 * b0 + a0 * b1) * 4294967296 + a0 * b0 := by
    have e1 : a = a1 * 4294967296 + a0 := by omega
    have e2 : b = b1 * 4294967296 + b0 := by omega
    rw [e1, e2]; grind
  rw [hp]
  clear hp
  generalize a0 * b0 = P00 at *
  generalize a1 * b0 = P10 at *
  generalize a0 * b1 = P01 at *
  generalize a1 * b1 = P11 at *
  have w00 : IntKind.u64.wrap P00 = P00 := Go.Inc.wrap_u64_in _ (by omega) (by omega)
  have w10 : IntKind.u64.wrap P10 = P10 := Go.Inc.wrap_u64_in _ (by omega) (by omega)
  have w01 : IntKind.u64.wrap P01 = P01 := Go.Inc.wrap_u64_in _ (by omega) (by omega)
  have w11 : IntKind.u64.wrap P11 = P11 := Go.Inc.wrap_u64_in _ (by omega) (by omega)
  rw [w00, w10, w01, w11, Int.tdiv_eq_ediv_of_nonneg m00.1, Int.tmod_eq_emod_of_nonneg m00.1]
  have wl : IntKind.u64.wrap (P00 / 4294967296) = P00 / 4294967296 := Go.Inc.wrap_u64_in _ (by omega) (by omega)
  rw [wl]
  obtain ⟨one, hone⟩ : ∃ one, P10 + P00 / 4294967296 = one := ⟨_, rfl⟩
  rw [hone]
  have w1 : IntKind.u64.wrap one = one := Go.Inc.wrap_u64_in _ (by omega) (by omega)
  rw [w1, Int.tdiv_eq_ediv_of_nonneg (show 0 ≤ one by omega), Int.tmod_eq_emod_of_nonneg (show 0 ≤ one by omega)]
  obtain ⟨two, htwo⟩ : ∃ two, P01 + one % 4294967296 = two := ⟨_, rfl⟩
  rw [htwo]
  have w2 : IntKind.u64.wrap two = two := Go.Inc.wrap_u64_in _ (by omega) (by omega)
  rw [w2, Int.tdiv_eq_ediv_of_nonneg (show 0 ≤ two by omega)]
  have w3 : IntKind.u64.wrap (one / 4294967296) = one / 4294967296 := Go.Inc.wrap_u64_in _ (by omega) (by omega)
  have w4 : IntKind.u64.wrap (two / 4294967296) = two / 4294967296 := Go.Inc.wrap_u64_in _ (by omega) (by omega)
  rw [w3, w4]
  have w5 : IntKind.u64.wrap (P11 + one / 4294967296) = P11 + one / 4294967296 := Go.Inc.wrap_u64_in _ (by omega) (by omega)
  rw [w5]
  have w6 : IntKind.u64.wrap (P11 + one / 4294967296 + two / 4294967296) = P11 + one / 4294967296 + two / 4294967296 := Go.Inc.wrap_u64_in _ (by omega) (by omega)
  have w7 : IntKind.u64.wrap (two * 4294967296) = two % 4294967296 * 4294967296 := by
    have : IntKind.u64.wrap (two * 4294967296) = (two * 4294967296) % 18446744073709551616 := rfl
    rw [this]; omega
  rw [w6, w7]
  have w8 : IntKind.u64.wrap (two % 4294967296 * 4294967296 + P00 % 4294967296) = two % 4294967296 * 4294967296 + P00 % 4294967296 := Go.Inc.wrap_u64_in _ (by omega) (by omega)
  rw [w8]
  omega
end Go.Run
namespace Go.Proofs.YthjimnmgbcckjaaGreat
set_option maxRecDepth 100000
open Go.RowKit Go.Inc Go.Run

set_option maxHeartbeats 1000000 in
theorem r4whole_calls (a b : Int) (ha : 0 ≤ a ∧ a < 18446744073709551616) (hb : 0 ≤ b ∧ b < 18446744073709551616) (w : World) : Calls Tryz.prog 148 #[.int .u64 a, .int .u64 b] w fun e w' => e = .returned (.tuple #[.int .u64 (a * b / 18446744073709551616), .int .u64 (a * b % 18446744073709551616)]) ∧ w' = w := by
  have hp := Lib.hid (whole_plain ha hb)
  go_enter Tryz.func148, Tryz.ntmps148
  go_wp2_with fail
  go_ret2
  refine ⟨?_, rfl⟩
  rw [← hp.out.1, ← hp.out.2]
  rfl

theorem prod_lt {A B : Int} (_hA : 0 ≤ A) (_hB : 0 ≤ B) : (A / 18446744073709551616 < B / 18446744073709551616 ∨ (A / 18446744073709551616 = B / 18446744073709551616 ∧ A % 18446744073709551616 < B % 18446744073709551616)) ↔ A < B := by omega
set_option maxHeartbeats 2000000 in
theorem r4below_calls (n d n' d' : Int) (hn : 0 ≤ n ∧ n < 18446744073709551616) (hd : 0 ≤ d ∧ d < 18446744073709551616) (hn' : 0 ≤ n' ∧ n' < 18446744073709551616) (hd' : 0 ≤ d' ∧ d' < 18446744073709551616) (w : World) :
    Calls Tryz.prog 133 #[slVal n d, slVal n' d'] w fun e w' => e = .returned (.bool (slBelow n d n' d')) ∧ Fr w w' := by
  have ha := heap_alloc2_old w (.cells #[.int .u64 n, .int .u64 d] 184) (.cells #[.int .u64 n', .int .u64 d'] 184)
  have hb := heap_alloc2_new w (.cells #[.int .u64 n, .int .u64 d] 184) (.cells #[.int .u64 n', .int .u64 d'] 184)
  have hff := Lib.hid (((Fr.refl w).alloc (.cells #[.int .u64 n, .int .u64 d] 184)).alloc (.cells #[.int .u64 n', .int .u64 d'] 184))
  obtain ⟨x0, x1⟩ := cells2 ha
  obtain ⟨y0, y1⟩ := cells2 hb
  unfold slVal
  by_cases h0 : d = 0
  · subst h0
    by_cases h1 : d' = 0
    · subst h1
      have hs : Hid (slBelow n 0 n' 0 = false) := by rw [Hid, slBelow, if_pos rfl]; rfl
      clear ha hb
      go_enter Tryz.func133, Tryz.ntmps133
      go_wp2_with fail
      go_ret
      exact ⟨by rw [hs.out]; rfl, hff.out⟩
    · have hs : Hid (slBelow n 0 n' d' = false) := by rw [Hid, slBelow, if_neg h1]; rfl
      have e1 : (d' == 0) = false := by rw [beq_eq_false_iff_ne]; exact h1
      clear ha hb
      go_enter Tryz.func133, Tryz.ntmps133
      go_wp2_with fail
      go_ret
      exact ⟨by rw [hs.out]; rfl, hff.out⟩
  · have e0 : (d == 0) = false := by rw [beq_eq_false_iff_ne]; exact h0
    have e0' : (d != 0) = true := by simpa using h0
    by_cases h1 : d' = 0
    · subst h1
      have hs : Hid (slBelow n d n' 0 = true) := by rw [Hid, slBelow, if_pos rfl]; exact e0'
      clear ha hb
      go_enter Tryz.func133, Tryz.ntmps133
      go_wp2_with fail
      go_ret
      exact ⟨by rw [hs.out]; rfl, hff.out⟩
    · have e1 : (d' == 0) = false := by rw [beq_eq_false_iff_ne]; exact h1
      obtain ⟨A, hA⟩ : ∃ A, n * d' = A := ⟨_, rfl⟩
      obtain ⟨B, hB⟩ : ∃ B, n' * d = B := ⟨_, rfl⟩
      have hA0 : 0 ≤ A := by rw [← hA]; exact Int.mul_nonneg hn.1 hd'.1
      have hB0 : 0 ≤ B := by rw [← hB]; exact Int.mul_nonneg hn'.1 hd.1
      have W1 := fun w => r4whole_calls n d' hn hd' w
      have W2 := fun w => r4whole_calls n' d hn' hd w
      rw [hA] at W1
      rw [hB] at W2
      have hs : Hid (slBelow n d n' d' = decide (A < B)) := by rw [Hid, slBelow, if_neg h1, e0', hA, hB, Bool.true_and]
      have hlt := prod_lt hA0 hB0
      obtain ⟨ah, hah⟩ : ∃ ah, A / 18446744073709551616 = ah := ⟨_, rfl⟩
      obtain ⟨al, hal⟩ : ∃ al, A % 18446744073709551616 = al := ⟨_, rfl⟩
      obtain ⟨bh, hbh⟩ : ∃ bh, B / 18446744073709551616 = bh := ⟨_, rfl⟩
      obtain ⟨bl, hbl⟩ : ∃ bl, B % 18446744073709551616 = bl := ⟨_, rfl⟩
      rw [hah, hal] at W1
      rw [hbh, hbl] at W2
      rw [hah, hal, hbh, hbl] at hlt
      have HW1 := Lib.hid W1
      have HW2 := Lib.hid W2
      have HLT := Lib.hid hlt
      clear ha hb W1 W2 hA hB hah hal hbh hbl hA0 hB0 hlt
      by_cases c1 : ah < bh
      · have g1 : decide (ah < bh) = true := decide_eq_true c1
        have hp : Hid (decide (A < B) = true) := decide_eq_true (HLT.out.1 (.inl c1))
        go_enter Tryz.func133, Tryz.ntmps133
        go_wp2_with fail
        refine (HW1.out _).mono ?_
        rintro _ w1 ⟨rfl, hw1⟩
        subst hw1
        go_wp2_with fail
        refine (HW2.out _).mono ?_
        rintro _ w2 ⟨rfl, hw2⟩
        subst hw2
        go_wp2_with fail
        go_ret
        exact ⟨by rw [hs.out, hp.out]; rfl, hff.out⟩
      · have g1 : decide (ah < bh) = false := decide_eq_false c1
        by_cases c2 : ah = bh
        · have g2 : (ah == bh) = true := by simpa using c2
          by_cases c3 : al < bl
          · have g3 : decide (al < bl) = true := decide_eq_true c3
            have hp : Hid (decide (A < B) = true) := decide_eq_true (HLT.out.1 (.inr ⟨c2, c3⟩))
            clear c2
            go_enter Tryz.func133, Tryz.ntmps133
            go_wp2_with fail
            refine (HW1.out _).mono ?_
            rintro _ w1 ⟨rfl, hw1⟩
            subst hw1
            go_wp2_with fail
            refine (HW2.out _).mono ?_
            rintro _ w2 ⟨rfl, hw2⟩
            subst hw2
            go_wp2_with fail
            go_ret
            exact ⟨by rw [hs.out, hp.out]; rfl, hff.out⟩
          · have g3 : decide (al < bl) = false := decide_eq_false c3
            have hp : Hid (decide (A < B) = false) := decide_eq_false (fun h => by rcases HLT.out.2 h with h | h; exact c1 h; exact c3 h.2)
            clear c2
            go_enter Tryz.func133, Tryz.ntmps133
            go_wp2_with fail
            refine (HW1.out _).mono ?_
            rintro _ w1 ⟨rfl, hw1⟩
            subst hw1
            go_wp2_with fail
            refine (HW2.out _).mono ?_
            rintro _ w2 ⟨rfl, hw2⟩
            subst hw2
            go_wp2_with fail
            go_ret
            exact ⟨by rw [hs.out, hp.out]; rfl, hff.out⟩
        · have g2 : (ah == bh) = false := by simpa using c2
          have hp : Hid (decide (A < B) = false) := decide_eq_false (fun h => by rcases HLT.out.2 h with h | h; exact c1 h; exact c2 h.1)
          go_enter Tryz.func133, Tryz.ntmps133
          go_wp2_with fail
          refine (HW1.out _).mono ?_
          rintro _ w1 ⟨rfl, hw1⟩
          subst hw1
          go_wp2_with fail
          refine (HW2.out _).mono ?_
          rintro _ w2 ⟨rfl, hw2⟩
          subst hw2
          go_wp2_with fail
          go_ret
          exact ⟨by rw [hs.out, hp.out]; rfl, hff.out⟩

set_option maxHeartbeats 1000000 in
theorem r4lowest_calls (n d : Nat) (hn : n < 18446744073709551616) (hd : d < 18446744073709551616) (h0 : 0 < d) (w : World) :
    Calls Tryz.prog 132 #[.int .u64 (n : Nat), .int .u64 (d : Nat)] w fun e w' => e = .returned (slVal ((n / Nat.gcd n d : Nat) : Int) ((d / Nat.gcd n d : Nat) : Int)) ∧ Fr w w' := by
  go_enter Tryz.func132, Tryz.ntmps132
  go_wp2_with fail
  obtain ⟨w0, hw0⟩ : ∃ w0, w0 = w.alloc (.cells #[.int .u64 0, .int .u64 0] 184) := ⟨_, rfl⟩
  have hb := heap_alloc_new w (.cells #[.int .u64 0, .int .u64 0] 184)
  have hf := (Fr.refl w).alloc (.cells #[.int .u64 0, .int .u64 0] 184)
  rw [← hw0] at hb hf ⊢
  clear hw0
  have HB := Lib.hid hb
  have HF := Lib.hid hf
  clear hb hf
  go_loopw [5, 6] (fun va vb wr => ∃ a b : Nat, va = .int .u64 a ∧ vb = .int .u64 b ∧ Hid (Nat.gcd a b = Nat.gcd n d) ∧ (0 < a ∨ 0 < b) ∧ a < 18446744073709551616 ∧ b < 18446744073709551616 ∧ wr = w0) (fun _ vb _ => (intOf vb).toNat)
  case atStart => exact ⟨n, d, rfl, rfl, rfl, .inr h0, hn, hd, rfl⟩
  case round =>
    obtain ⟨a, b, rfl, rfl, hg, hb0, ha, hb, rfl⟩ := hrel
    by_cases hbz : b = 0
    · subst hbz
      have ha0 : 0 < a := by omega
      have hag : Hid (a = Nat.gcd n d) := by have := hg.out; rwa [Nat.gcd_zero_right] at this
      have hnz : ¬ (a = 0) := by omega
      have hnz2 : ¬ ((a : Int) = 0) := by omega
      have hge : (1 : Int) ≤ (a : Int) := by omega
      have hq1 : IntKind.u64.wrap (Int.tdiv (n : Int) (a : Int)) = (n : Int) / (a : Int) := IntWalk.u64_quo _ _ (by omega)
      have hq2 : IntKind.u64.wrap (Int.tdiv (d : Int) (a : Int)) = (d : Int) / (a : Int) := IntWalk.u64_quo _ _ (by omega)
      clear hb0
      go_wp2_with fail
      refine wp_region_quiet_tail 7 (by kernel_rfl) (by kernel_rfl) ?_
      try simp only [List.take_succ_cons, List.take_zero, List.drop_succ_cons, List.drop_zero]
      try go_frame
      repeat (quiet_step (fail))
      refine wpQuiet_nil ?_
      intro _ hw'
      obtain ⟨q, rfl⟩ := hw'
      obtain ⟨w1, hw1⟩ : ∃ w1, w1 = wr.drewN q := ⟨_, rfl⟩
      rw [← hw1]
      have hf1 : Hid (Fr wr w1) := by rw [hw1]; exact fr_drewN _ _
      clear hw1
      have HB1 := Lib.hid (hf1.out.blk HB.out)
      obtain ⟨c0, c1⟩ := cells2 HB1.out
      have f0 := blk_frozen HB1.out 0
      have f1 := blk_frozen HB1.out 1
      have hqq : Hid (∀ x : Nat, x < 18446744073709551616 → IntKind.u64.wrap ((x : Int) / (a : Int)) = ((x / a : Nat) : Int)) := fun x hx => wrap_div x a hx
      go_wp2_with fail
      refine bodyPost_ret (results_cell_row rfl _ _ w.heap.size _ _ (0, 0) _ rfl (blk_set (blk_set HB1.out 0 _) 1 _) Tryz.underlying184 rfl (by kernel_rfl)) rfl ⟨?_, ((HF.out.trans hf1.out).set (p := ⟨w.heap.size, 0, none⟩) (Nat.le_refl _) _).set (p := ⟨w.heap.size, 1, none⟩) (Nat.le_refl _) _⟩
      rw [← hag.out, hqq.out n hn, hqq.out d hd]
      rfl
    · have hb1 : 0 < b := by omega
      have hz1 : ((b : Int) != 0) = true := by
        have : ¬ (b : Int) = 0 := by omega
        simpa using this
      have hz2 : (0 : Int) < (b : Int) := by omega
      have hnz2 : ¬ ((b : Int) = 0) := by omega
      have hm : Hid (a % b < b) := Nat.mod_lt _ hb1
      clear hb0
      go_wp2_with fail
      exact ⟨⟨b, a % b, rfl, by simp, by rw [Hid, ← hg.out]; rw [Nat.gcd_comm b, ← Nat.gcd_rec, Nat.gcd_comm], .inl hb1, hb, by have := hm.out; omega, trivial⟩, by simp only [intOf]; have := hm.out; omega⟩
end Go.Proofs.YthjimnmgbcckjaaGreat
namespace Go.Run
theorem lowest_spec (N F : Nat) (hF : 0 < F) : 0 < F / Nat.gcd N F ∧ Int.gcd ((N / Nat.gcd N F : Nat) : Int) ((F / Nat.gcd N F : Nat) : Int) = 1 ∧ ((N / Nat.gcd N F : Nat) : Int) * (F : Int) = (N : Int) * ((F / Nat.gcd N F : Nat) : Int) ∧ F / Nat.gcd N F ≤ F ∧ N / Nat.gcd N F ≤ N := by
  have hg : 0 < Nat.gcd N F := Nat.gcd_pos_of_pos_right _ hF
  obtain ⟨N', hN⟩ := Nat.gcd_dvd_left N F
  obtain ⟨F', hF'⟩ := Nat.gcd_dvd_right N F
  have eN : N / Nat.gcd N F = N' := Nat.div_eq_of_eq_mul_right hg hN
  have eF : F / Nat.gcd N F = F' := Nat.div_eq_of_eq_mul_right hg hF'
  refine ⟨Nat.div_pos (Nat.le_of_dvd hF (Nat.gcd_dvd_right N F)) hg, ?_, ?_, Nat.div_le_self _ _, Nat.div_le_self _ _⟩
  · exact Nat.Coprime.gcd_eq_one (Nat.coprime_div_gcd_div_gcd hg)
  · rw [eN, eF]
    have h1 : N' * F = N * F' := by
      conv => lhs; rw [hF']
      conv => rhs; rw [hN]
      rw [← Nat.mul_assoc, Nat.mul_comm N']
    exact_mod_cast h1
/-- a / b is not above n / d, and that below s / t: all that a / b keeps, s / t keeps. -/
theorem up_keeps {c x n d s t : Int} (hd : 0 < d) (hx : 0 ≤ x) (ht : 0 < t) (h : c * d ≤ n * x) (hlt : n * t ≤ s * d) : c * t ≤ s * x := by
  have h1 : t * (c * d) ≤ t * (n * x) := Int.mul_le_mul_of_nonneg_left h (Int.le_of_lt ht)
  have h2 : x * (n * t) ≤ x * (s * d) := Int.mul_le_mul_of_nonneg_left hlt hx
  have h3 : d * (c * t) ≤ d * (s * x) := by grind
  exact Int.le_of_mul_le_mul_left h3 hd
theorem dn_keeps {c x n d s t : Int} (hd' : 0 < d ∨ (n = 1 ∧ d = 0)) (hx : 0 ≤ x) (ht : 0 < t) (h : n * x ≤ c * d) (hlt : s * d < n * t) : s * x ≤ c * t ∨ d = 0 := by
  rcases hd' with hd' | ⟨_, h0⟩
  · left
    have h1 : t * (n * x) ≤ t * (c * d) := Int.mul_le_mul_of_nonneg_left h (Int.le_of_lt ht)
    have h2 : x * (s * d) ≤ x * (n * t) := Int.mul_le_mul_of_nonneg_left (Int.le_of_lt hlt) hx
    have h3 : d * (s * x) ≤ d * (c * t) := by grind
    exact Int.le_of_mul_le_mul_left h3 hd'
  · exact .inr h0
/-- The least slope for the pairs of keys, and of those with one more. -/
structure LowTo (e : Int) (ks : List Int) (key : Int) (i : Nat) (n d : Int) : Prop where
  pos : 0 < d
  nn : 0 ≤ n
  low : Int.gcd n d = 1
  ge : ∀ a b, a < b → b < ks.length → ((b : Int) - a - 2 * e) * d ≤ n * (ky ks b - ky ks a)
  ge2 : ∀ j, j < i → ((ks.length : Int) - j - 2 * e) * d ≤ n * (key - ky ks j)
  at' : (n = 0 ∧ d = 1) ∨ (∃ a b, a < b ∧ b < ks.length ∧ n * (ky ks b - ky ks a) = ((b : Int) - a - 2 * e) * d) ∨ (∃ j, j < i ∧ n * (key - ky ks j) = ((ks.length : Int) - j - 2 * e) * d)
structure TopTo (e : Int) (ks : List Int) (key : Int) (i : Nat) (n d : Int) : Prop where
  nn : 0 ≤ n
  low : Int.gcd n d = 1
  le : ∀ a b, a < b → b < ks.length → n * (ky ks b - ky ks a) ≤ ((b : Int) - a + 2 * e) * d
  le2 : ∀ j, j < i → n * (key - ky ks j) ≤ ((ks.length : Int) - j + 2 * e) * d
  at' : (n = 1 ∧ d = 0 ∧ ks.length < 2 ∧ i = 0) ∨ (0 < d ∧ ((∃ a b, a < b ∧ b < ks.length ∧ n * (ky ks b - ky ks a) = ((b : Int) - a + 2 * e) * d) ∨ (∃ j, j < i ∧ n * (key - ky ks j) = ((ks.length : Int) - j + 2 * e) * d)))
theorem LowTo.start {e : Int} {ks : List Int} {key n d : Int} (h : IsLow e ks n d) : LowTo e ks key 0 n d :=
  ⟨h.pos, h.nn, h.low, h.ge, fun j hj => by omega, by
    rcases h.at' with h1 | ⟨i, j, h2⟩
    · exact .inl h1
    · exact .inr (.inl ⟨i, j, h2⟩)⟩
theorem TopTo.start {e : Int} {ks : List Int} {key n d : Int} (h : IsTop e ks n d) : TopTo e ks key 0 n d := by
  refine ⟨h.nn, h.low, h.le, fun j hj => by omega, ?_⟩
  rcases Nat.lt_or_ge ks.length 2 with h1 | h1
  · obtain ⟨rfl, rfl⟩ := h.none h1
    exact .inl ⟨rfl, rfl, h1, rfl⟩
  · obtain ⟨i, j, h2⟩ := h.at' h1
    exact .inr ⟨h.pos h1, .inl ⟨i, j, h2⟩⟩
theorem LowTo.keep {e : Int} {ks : List Int} {key : Int} {i : Nat} {n d : Int} (h : LowTo e ks key i n d) (hk : ((ks.length : Int) - i - 2 * e) * d ≤ n * (key - ky ks i)) : LowTo e ks key (i + 1) n d :=
  ⟨h.pos, h.nn, h.low, h.ge, fun j hj => by
    rcases Nat.lt_or_ge j i with h1 | h1
    · exact h.ge2 j h1
    · obtain rfl : j = i := by omega
      exact hk, by
    rcases h.at' with h1 | h1 | ⟨j, hj, h1⟩
    · exact .inl h1
    · exact .inr (.inl h1)
    · exact .inr (.inr ⟨j, by omega, h1⟩)⟩
theorem LowTo.take {e : Int} {ks : List Int} {key : Int} {i : Nat} {n d s t : Int} (hR : Rise ks) (h : LowTo e ks key i n d) (hx : ∀ j, j ≤ i → 0 ≤ key - ky ks j) (ht : 0 < t) (hs : 0 ≤ s) (hg : Int.gcd s t = 1) (hlt : n * t < s * d) (hst : s * (key - ky ks i) = ((ks.length : Int) - i - 2 * e) * t) : LowTo e ks key (i + 1) s t :=
  ⟨ht, hs, hg, fun a b hab hb => up_keeps h.pos (by have := rise_lt hR hab hb; omega) ht (h.ge a b hab hb) (Int.le_of_lt hlt), fun j hj => by
    rcases Nat.lt_or_ge j i with h1 | h1
    · exact up_keeps h.pos (hx j (by omega)) ht (h.ge2 j h1) (Int.le_of_lt hlt)
    · obtain rfl : j = i := by omega
      exact Int.le_of_eq hst.symm, .inr (.inr ⟨i, by omega, hst⟩)⟩
theorem LowTo.stay {e : Int} {ks : List Int} {key : Int} {i : Nat} {n d s t : Int} (h : LowTo e ks key i n d) (hx : 0 ≤ key - ky ks i) (ht : 0 < t) (hle : s * d ≤ n * t) (hst : s * (key - ky ks i) = ((ks.length : Int) - i - 2 * e) * t) : LowTo e ks key (i + 1) n d :=
  h.keep (up_keeps ht hx h.pos (Int.le_of_eq hst.symm) hle)
theorem TopTo.take {e : Int} {ks : List Int} {key : Int} {i : Nat} {n d s t : Int} (hR : Rise ks) (hi : i < ks.length) (h : TopTo e ks key i n d) (hx : ∀ j, j ≤ i → 0 ≤ key - ky ks j) (ht : 0 < t) (hs : 0 ≤ s) (hg : Int.gcd s t = 1) (hlt : s * d < n * t) (hst : s * (key - ky ks i) = ((ks.length : Int) - i + 2 * e) * t) : TopTo e ks key (i + 1) s t := by
  have hd : 0 ≤ d := by rcases h.at' with ⟨_, h1, _⟩ | ⟨h1, _⟩ <;> omega
  have hd' : 0 < d ∨ (n = 1 ∧ d = 0) := by
    rcases h.at' with ⟨h1, h2, _⟩ | ⟨h1, _⟩
    · exact .inr ⟨h1, h2⟩
    · exact .inl h1
  have hz : d = 0 → ks.length < 2 ∧ i = 0 := fun h0 => by
    rcases h.at' with ⟨_, _, h1⟩ | ⟨h1, _⟩
    · exact h1
    · omega
  refine ⟨hs, hg, fun a b hab hb => ?_, fun j hj => ?_, .inr ⟨ht, .inr ⟨i, by omega, hst⟩⟩⟩
  · rcases dn_keeps hd' (by have := rise_lt hR hab hb; omega) ht (h.le a b hab hb) hlt with h1 | h1
    · exact h1
    · have := hz h1; omega
  · rcases Nat.lt_or_ge j i with h1 | h1
    · rcases dn_keeps hd' (hx j (by omega)) ht (h.le2 j h1) hlt with h2 | h2
      · exact h2
      · have := hz h2; omega
    · obtain rfl : j = i := by omega
      exact Int.le_of_eq hst
theorem TopTo.stay {e : Int} {ks : List Int} {key : Int} {i : Nat} {n d s t : Int} (h : TopTo e ks key i n d) (hd : 0 < d) (hx : 0 ≤ key - ky ks i) (ht : 0 < t) (hle : n * t ≤ s * d) (hst : s * (key - ky ks i) = ((ks.length : Int) - i + 2 * e) * t) : TopTo e ks key (i + 1) n d := by
  have hk : n * (key - ky ks i) ≤ ((ks.length : Int) - i + 2 * e) * d := by
    have h1 : (key - ky ks i) * (n * t) ≤ (key - ky ks i) * (s * d) := Int.mul_le_mul_of_nonneg_left hle hx
    have h2 : t * (n * (key - ky ks i)) ≤ t * (((ks.length : Int) - i + 2 * e) * d) := by
      generalize key - ky ks i = x at *
      generalize (ks.length : Int) - i + 2 * e = c at *
      have h3 : x * (s * d) = t * (c * d) := by
        calc x * (s * d) = d * (s * x) := by rw [Int.mul_comm, Int.mul_assoc, Int.mul_comm d x, ← Int.mul_assoc, Int.mul_comm (s * x)]
          _ = d * (c * t) := by rw [hst]
          _ = t * (c * d) := by rw [Int.mul_comm, Int.mul_assoc, Int.mul_comm t d, ← Int.mul_assoc, Int.mul_comm (c * d)]
      have h4 : x * (n * t) = t * (n * x) := by rw [Int.mul_comm, Int.mul_assoc, Int.mul_comm t x, ← Int.mul_assoc, Int.mul_comm (n * x)]
      omega
    exact Int.le_of_mul_le_mul_left h2 ht
  refine ⟨h.nn, h.low, h.le, fun j hj => ?_, ?_⟩
  · rcases Nat.lt_or_ge j i with h1 | h1
    · exact h.le2 j h1
    · obtain rfl : j = i := by omega
      exact hk
  · rcases h.at' with ⟨_, h1, _⟩ | ⟨h1, h2 | ⟨j, hj, h2⟩⟩
    · omega
    · exact .inr ⟨h1, .inl h2⟩
    · exact .inr ⟨h1, .inr ⟨j, by omega, h2⟩⟩
theorem ky_snoc {ks : List Int} {key : Int} {j : Nat} (h : j < ks.length) : ky (ks ++ [key]) j = ky ks j := by
  unfold ky
  simp [List.getD_eq_getElem?_getD, List.getElem?_append_left h]
theorem ky_last {ks : List Int} {key : Int} : ky (ks ++ [key]) ks.length = key := by
  unfold ky
  simp [List.getD_eq_getElem?_getD]
theorem LowTo.fin {e : Int} {ks : List Int} {key n d : Int} (h : LowTo e ks key ks.length n d) : IsLow e (ks ++ [key]) n d := by
  refine ⟨h.pos, h.nn, h.low, fun i j hij hj => ?_, ?_⟩
  · rw [List.length_append, List.length_singleton] at hj
    rcases Nat.lt_or_ge j ks.length with h1 | h1
    · rw [ky_snoc h1, ky_snoc (by omega)]; exact h.ge i j hij h1
    · obtain rfl : j = ks.length := by omega
      rw [ky_last, ky_snoc hij]; exact h.ge2 i hij
  · rcases h.at' with h1 | ⟨a, b, hab, hb, h1⟩ | ⟨j, hj, h1⟩
    · exact .inl h1
    · exact .inr ⟨a, b, hab, by simp; omega, by rw [ky_snoc hb, ky_snoc (by omega)]; exact h1⟩
    · exact .inr ⟨j, ks.length, hj, by simp, by rw [ky_last, ky_snoc hj]; exact h1⟩
theorem TopTo.fin {e : Int} {ks : List Int} {key n d : Int} (h : TopTo e ks key ks.length n d) : IsTop e (ks ++ [key]) n d := by
  refine ⟨fun hl => ?_, fun hl => ?_, h.nn, h.low, fun i j hij hj => ?_, fun hl => ?_⟩
  · have h0 : ks.length = 0 := by simp at hl; omega
    rcases h.at' with ⟨h1, h2, _⟩ | ⟨_, ⟨a, b, hab, hb, _⟩ | ⟨j, hj, _⟩⟩
    · exact ⟨h1, h2⟩
    · omega
    · omega
  · have h0 : 0 < ks.length := by simp at hl; omega
    rcases h.at' with ⟨_, _, _, h1⟩ | ⟨h1, _⟩
    · omega
    · exact h1
  · rw [List.length_append, List.length_singleton] at hj
    rcases Nat.lt_or_ge j ks.length with h1 | h1
    · rw [ky_snoc h1, ky_snoc (by omega)]; exact h.le i j hij h1
    · obtain rfl : j = ks.length := by omega
      rw [ky_last, ky_snoc hij]; exact h.le2 i hij
  · have h0 : 0 < ks.length := by simp at hl; omega
    rcases h.at' with ⟨_, _, _, h1⟩ | ⟨_, ⟨a, b, hab, hb, h1⟩ | ⟨j, hj, h1⟩⟩
    · omega
    · exact ⟨a, b, hab, by simp; omega, by rw [ky_snoc hb, ky_snoc (by omega)]; exact h1⟩
    · exact ⟨j, ks.length, hj, by simp, by rw [ky_last, ky_snoc hj]; exact h1⟩
end Go.Run
namespace Go.Proofs.YthjimnmgbcckjaaGreat
set_option maxRecDepth 100000
open Go.RowKit Go.Inc Go.Run

/-- The block of the reference's fit. -/
def rfCells (eps : Int) (A : Option Addr) (n c : Nat) (ln ld tn td : Int) : Array Value := #[.int .i64 eps, .slice A n c, .int .u64 ln, .int .u64 ld, .int .u64 tn, .int .u64 td]
theorem rf_cells {w : World} {g : Nat} {eps : Int} {A : Option Addr} {n c : Nat} {ln ld tn td : Int} (h : w.heap[g]? = some (.cells (rfCells eps A n c ln ld tn td) 186 (0, 0))) :
    w.cell? ⟨g, 0, none⟩ = some (.int .i64 eps) ∧ w.cell? ⟨g, 1, none⟩ = some (.slice A n c) ∧ w.cell? ⟨g, 2, none⟩ = some (.int .u64 ln) ∧ w.cell? ⟨g, 3, none⟩ = some (.int .u64 ld) ∧ w.cell? ⟨g, 4, none⟩ = some (.int .u64 tn) ∧ w.cell? ⟨g, 5, none⟩ = some (.int .u64 td) := by
  refine ⟨?_, ?_, ?_, ?_, ?_, ?_⟩ <;> (rw [blk_cell h]; rfl)
/-- A fit of keys. -/
def RFit (w : World) (g base : Nat) (e : Int) (ks : List Int) (ln ld : Int) : Prop := ∃ A c tn td, w.heap[g]? = some (.cells (rfCells (e + 1) A ks.length c ln ld tn td) 186 (0, 0)) ∧ Own w base 50 1 A ks.length c (ks.map uv) ∧
  Rise ks ∧ KeysOk ks ∧ IsLow e ks ln ld ∧ IsTop e ks tn td ∧ slBelow tn td ln ld = false
/-- A block of the kind that a fit of the reference has. -/
def RfTy (w : World) (k : Nat) : Prop := ∃ cs t fr, w.heap[k]? = some (.cells cs t fr) ∧ (t = 186 ∨ t = 50)
theorem own_not_rf {w : World} {base : Nat} {e : TypeId} {size : Nat} {A : Option Addr} {n c : Nat} {xs : List Value} (h : Own w base e size A n c xs) (he : e ≠ 186 ∧ e ≠ 50) : ∀ k, ablk A = some k → ¬ RfTy w k := by
  rintro k hk ⟨cs, t, fr, h1, h2⟩
  obtain ⟨cs', h3⟩ := own_ty h hk
  rw [h1] at h3
  injection h3 with h3
  injection h3 with _ h4 _
  subst h4
  rcases h2 with h2 | h2
  · exact he.1 h2
  · exact he.2 h2
theorem rfit_mv {S : Nat → Prop} {w w' : World} {g base : Nat} {e : Int} {ks : List Int} {ln ld : Int} (h : RFit w g base e ks ln ld) (hm : Mv S w w') (hS : ∀ k, S k → ¬ RfTy w k) : RFit w' g base e ks ln ld := by
  obtain ⟨A, c, tn, td, h1, h2, h3⟩ := h
  refine ⟨A, c, tn, td, hm.blk h1 (fun hs => hS _ hs ⟨_, _, _, h1, .inl rfl⟩), h2.mv hm (fun k hk hs => ?_), h3⟩
  obtain ⟨cs, h4⟩ := own_ty h2 hk
  exact hS k hs ⟨_, _, _, h4, .inr rfl⟩
theorem rfit_fr {w w' : World} {g base : Nat} {e : Int} {ks : List Int} {ln ld : Int} (h : RFit w g base e ks ln ld) (hf : Fr w w') : RFit w' g base e ks ln ld := rfit_mv (S := none0) h (Mv.of_fr hf) (fun _ h => h.elim)
theorem r4new_calls (eps : Int) (h : 2 ≤ eps ∧ eps ≤ 64) (base : Nat) (w : World) :
    Calls Tryz.prog 120 #[.int .i64 eps] w fun e w' => ∃ g, e = .returned (.tuple #[.pointer (some ⟨g, 0, none⟩), .int .i64 0]) ∧ w.heap.size ≤ g ∧ Fr w w' ∧ RFit w' g base (eps - 1) [] 0 1 := by
  have d1 : decide (eps < 2) = false := decide_eq_false (by omega)
  have d2 : decide (eps > 64) = false := decide_eq_false (by omega)
  go_enter Tryz.func120, Tryz.ntmps120
  go_wp2_with fail
  go_ret2
  refine ⟨_, rfl, Nat.le_refl _, (Fr.refl w).alloc _, none, 0, 1, 0, ?_, Own.nil _ _ _ _, List.Pairwise.nil, fun k hk => (by cases hk), low_start _, top_start _, rfl⟩
  rw [show eps - 1 + 1 = eps by omega]
  exact heap_alloc_new w _
theorem r4new_bad (eps : Int) (h : ¬ (2 ≤ eps ∧ eps ≤ 64)) (w : World) : Calls Tryz.prog 120 #[.int .i64 eps] w fun e w' => e = .returned (.tuple #[.pointer none, .int .i64 1]) ∧ Fr w w' := by
  by_cases h1 : eps < 2
  · have d1 : decide (eps < 2) = true := decide_eq_true h1
    go_enter Tryz.func120, Tryz.ntmps120
    go_wp2_with fail
    go_ret2
    exact ⟨rfl, Fr.refl _⟩
  · have d1 : decide (eps < 2) = false := decide_eq_false h1
    have d2 : decide (eps > 64) = true := decide_eq_true (by omega)
    go_enter Tryz.func120, Tryz.ntmps120
    go_wp2_with fail
    go_ret2
    exact ⟨rfl, Fr.refl _⟩
theorem r4least_calls (w : World) (g base : Nat) (e0 ln ld : Int) (ks : List Int) (hf : RFit w g base e0 ks ln ld) :
    Calls Tryz.prog 134 #[.pointer (some ⟨g, 0, none⟩)] w fun e w' => e = .returned (.agg #[.int .u64 ln, .int .u64 ld]) ∧ Fr w w' := by
  obtain ⟨A, c, tn, td, hat, _⟩ := hf
  obtain ⟨f0, f1, f2, f3, f4, f5⟩ := rf_cells hat
  have hff := Lib.hid ((Fr.refl w).alloc (.cells #[.int .u64 0, .int .u64 0] 184))
  clear hat f0 f1 f4 f5
  have g3 := hff.out.cell f2
  have g4 := hff.out.cell f3
  have hb := heap_alloc_new w (.cells #[.int .u64 0, .int .u64 0] 184)
  have z0 := blk_frozen hb 0
  have z1 := blk_frozen hb 1
  obtain ⟨y0, y1⟩ := cells2 hb
  clear hb
  go_enter Tryz.func134, Tryz.ntmps134
  go_wp2_with fail
  exact bodyPost_ret (results_cell_row rfl _ _ w.heap.size _ _ (0, 0) _ rfl (heap_alloc_new w _) Tryz.underlying184 rfl (by kernel_rfl)) rfl ⟨rfl, (Fr.refl w).alloc _⟩

set_option maxHeartbeats 4000000 in
theorem r4add_calls (g base : Nat) (e0 key ln ld : Int) (ks : List Int) (n : Nat) (hn : n = ks.length) (he : 1 ≤ e0 ∧ e0 ≤ 63) (hl : n < 4294967296) (hk : 0 ≤ key ∧ key < 18446744073709551616) (hlast : 0 < ks.length → ky ks (ks.length - 1) < key) (w : World)
    (hfit : RFit w g base e0 ks ln ld) (hg : base ≤ g) (hbw : base ≤ w.heap.size) :
    Calls Tryz.prog 121 #[.pointer (some ⟨g, 0, none⟩), .int .u64 key] w fun r w' => Mv (fun k => base ≤ k ∧ RfTy w k) w w' ∧
      ((FitsL e0 (ks ++ [key]) ∧ r = .returned (.tuple #[.bool true, .int .i64 0]) ∧ ∃ ln' ld', RFit w' g base e0 (ks ++ [key]) ln' ld') ∨ (NoFit e0 (ks ++ [key]) ∧ r = .returned (.tuple #[.bool false, .int .i64 0]))) := by
  obtain ⟨A, c, tn, td, hat, hown, hR, hK, hlow, htop, hsb⟩ := hfit
  have HR' := Lib.hid (rise_last hR hlast)
  have HLAST := Lib.hid hlast
  have HAT := Lib.hid hat
  have HOWN := Lib.hid hown
  have HRI := Lib.hid hR
  have HK := Lib.hid hK
  have HLOW := Lib.hid hlow
  have HTOP := Lib.hid htop
  have HN := Lib.hid hn
  have HBW := Lib.hid hbw
  have HGB := Lib.hid hg
  have HBL := Lib.hid (low_bound (by omega) (by omega) hR hK hlow)
  have HBT := Lib.hid (top_bound (by omega) (by omega) hR hK htop)
  have HX : Hid (∀ i, i < n → ∃ X : Nat, key - ky ks i = (X : Int) ∧ 0 < X ∧ X < 18446744073709551616) := by
    intro i hi
    have h1 := rise_lt HR'.out (i := i) (j := n) (by omega) (by simp; omega)
    rw [hn, ky_last, ky_snoc (by omega)] at h1
    have h2 := hK.ky (i := i) (by omega)
    exact ⟨(key - ky ks i).toNat, by omega, by omega, by omega⟩
  rw [← hn] at hat
  have HAT := Lib.hid hat
  have hof : Hid (∀ w', Fr w w' → _) := fun w' hf => rf_cells (hf.blk hat)
  have HOF := hof
  clear hof hat hown hR hK hlow htop hn hbw hg hsb hlast
  obtain ⟨f0, f1, f2, f3, f4, f5⟩ := HOF.out w (Fr.refl w)
  have k45 := (HOF.out _ ((Fr.refl w).alloc (.cells #[.int .u64 ln, .int .u64 ld] 184))).2.2.2.2
  obtain ⟨k4, k5⟩ := k45
  have w1 : IntKind.i64.wrap (e0 + 1 - 1) = e0 := by rw [show e0 + 1 - 1 = e0 by omega]; exact wrap_i64_in _ (by omega) (by omega)
  go_enter Tryz.func121, Tryz.ntmps121
  go_upto_region 2 with fail
  go_cut [32] (fun st wx => st = .bool false ∧ w = wx)
  case first =>
    by_cases h0 : 0 < n
    · have d1 : decide ((n : Int) > 0) = true := decide_eq_true (by omega)
      have d2 : (0 : Int) < (n : Int) := by omega
      have d3 : decide (key ≤ ky ks (n - 1)) = false := decide_eq_false (by have := HLAST.out (by have := HN.out; omega); rw [← HN.out] at this; omega)
      obtain ⟨b, off, hA, hc⟩ := rdc_ky HOWN.out.rd (by have := HN.out; omega)
      subst hA
      have c1 := hc (n - 1) (by have := HN.out; omega)
      obtain ⟨K, hKK⟩ : ∃ K, K = ky ks (n - 1) := ⟨_, rfl⟩
      rw [← hKK] at c1 d3
      have ew : IntKind.i64.wrap ((n : Int) - 1) = ((n - 1 : Nat) : Int) := by rw [show ((n - 1 : Nat) : Int) = (n : Int) - 1 by omega]; exact wrap_i64_in _ (by omega) (by omega)
      clear hc hKK
      go_wp2_with fail
      go_meet
      exact ⟨rfl, rfl⟩
    · have d1 : decide ((n : Int) > 0) = false := decide_eq_false (by omega)
      have d3 : decide (0 < n) = false := decide_eq_false h0
      go_wp2_with fail
      go_meet
      exact ⟨rfl, rfl⟩
  case rest =>
  obtain ⟨rfl, rfl⟩ := hcut
  go_wp2_with fail
  go_loopw [10] (fun v wr => ∃ (i : Nat) (ln ld tn td : Int), v = .int .i64 i ∧ i ≤ n ∧ Hid (LowTo e0 ks key i ln ld) ∧ Hid (TopTo e0 ks key i tn td) ∧ Hid (wr.heap[w.heap.size]? = some (.cells #[.int .u64 ln, .int .u64 ld] 184 (0, 0))) ∧ Hid (wr.heap[w.heap.size + 1]? = some (.cells #[.int .u64 tn, .int .u64 td] 184 (0, 0))) ∧
      ((0 ≤ ln ∧ ln < 18446744073709551616) ∧ (0 ≤ ld ∧ ld < 18446744073709551616) ∧ (0 ≤ tn ∧ tn < 18446744073709551616) ∧ (0 ≤ td ∧ td < 18446744073709551616)) ∧ Hid (Fr w wr)) (fun v _ => n - (intOf v).toNat)
  case atStart => exact ⟨0, ln, ld, tn, td, rfl, by omega, LowTo.start HLOW.out, TopTo.start HTOP.out, heap_alloc2_old _ _ _, heap_alloc2_new _ _ _, by have := HBL.out; have := HBT.out; omega, ((Fr.refl w).alloc _).alloc _⟩
  case round =>
    clear f0 f1 f2 f3 f4 f5 k4 k5 w1
    obtain ⟨i, ln, ld, tn, td, rfl, hi, hlow, htop, hb8, hb9, hbd, hf⟩ := hrel
    obtain ⟨wo, hwo⟩ : ∃ wo, wo = wr := ⟨_, rfl⟩
    subst hwo
    rcases Nat.lt_or_ge i n with hlt | hge
    · have g1 : decide (i < n) = true := decide_eq_true hlt
      have g2 : (i : Int) < (n : Int) := by omega
      obtain ⟨f0, f1, f2, f3, f4, f5⟩ := HOF.out wo hf.out
      obtain ⟨b, off, hA, hc⟩ := rdc_ky HOWN.out.rd (by have := HN.out; omega)
      subst hA
      have c1 := hf.out.cell (hc i (by have := HN.out; omega))
      obtain ⟨X, hX, hX0, hX1⟩ := HX.out i hlt
      obtain ⟨K, hKK⟩ : ∃ K, K = ky ks i := ⟨_, rfl⟩
      have HKK := Lib.hid hKK
      rw [← hKK] at c1 hX
      have HXX := Lib.hid hX
      have w1 : IntKind.u64.wrap (key - K) = (X : Int) := by rw [hX]; exact wrap_u64_in _ (by omega) (by omega)
      have w2 : IntKind.i64.wrap ((n : Int) - (i : Int)) = (n : Int) - i := wrap_i64_in _ (by omega) (by omega)
      have w3 : IntKind.i64.wrap (2 * e0) = 2 * e0 := wrap_i64_in _ (by omega) (by omega)
      have w4 : IntKind.i64.wrap ((n : Int) - i - 2 * e0) = (n : Int) - i - 2 * e0 := wrap_i64_in _ (by omega) (by omega)
      have w5 : IntKind.i64.wrap ((n : Int) - i + 2 * e0) = (n : Int) - i + 2 * e0 := wrap_i64_in _ (by omega) (by omega)
      have w6 : IntKind.u64.wrap ((n : Int) - i + 2 * e0) = (n : Int) - i + 2 * e0 := wrap_u64_in _ (by omega) (by omega)
      have HHX : Hid (∀ j, j ≤ i → 0 ≤ key - ky ks j) := fun j hj => by obtain ⟨Y, h1, _⟩ := HX.out j (by omega); omega
      have HEQ : Hid (key - ky ks i = (X : Int) ∧ (ks.length : Int) = n) := by rw [Hid, ← HKK.out, ← HN.out]; exact ⟨HXX.out, rfl⟩
      clear hc hKK hX
      go_upto_if 66 with fail
      go_cut [] (fun wx => ∃ ln' ld', Hid (LowTo e0 ks key (i + 1) ln' ld') ∧ Hid (wx.heap[w.heap.size]? = some (.cells #[.int .u64 ln', .int .u64 ld'] 184 (0, 0))) ∧ Hid (wx.heap[w.heap.size + 1]? = some (.cells #[.int .u64 tn, .int .u64 td] 184 (0, 0))) ∧ ((0 ≤ ln' ∧ ln' < 18446744073709551616) ∧ (0 ≤ ld' ∧ ld' < 18446744073709551616)) ∧ Hid (Fr w wx))
      case first =>
        by_cases hC : (n : Int) - i - 2 * e0 > 0
        · have d1 : decide ((n : Int) - i - 2 * e0 > 0) = true := decide_eq_true hC
          have d2 : (0 : Int) < (n : Int) - i - 2 * e0 := hC
          obtain ⟨C, hCC⟩ : ∃ C : Nat, (n : Int) - i - 2 * e0 = (C : Int) := ⟨((n : Int) - i - 2 * e0).toNat, by omega⟩
          have HCC := Lib.hid hCC
          have w7 : IntKind.u64.wrap ((n : Int) - i - 2 * e0) = (n : Int) - i - 2 * e0 := wrap_u64_in _ (by omega) (by omega)
          obtain ⟨s1, s2, s3, s4, s5⟩ := lowest_spec C X hX0
          obtain ⟨P, hP⟩ : ∃ P, P = C / Nat.gcd C X := ⟨_, rfl⟩
          obtain ⟨Q, hQ⟩ : ∃ Q, Q = X / Nat.gcd C X := ⟨_, rfl⟩
          have HR4 := Lib.hid (fun w => r4lowest_calls C X (by omega) (by omega) hX0 w)
          rw [← hP] at s2 s3 HR4
          rw [← hQ] at s1 s2 s3 HR4
          rw [← hCC] at s3 HR4
          have HS := Lib.hid (And.intro s1 (And.intro s2 s3))
          have hPQ : P < 18446744073709551616 ∧ Q < 18446744073709551616 := by rw [hP, hQ]; omega
          clear s1 s2 s3 s4 s5 hP hQ hCC hC
          go_wp2_with fail
          refine (HR4.out _).mono ?_
          rintro e wb ⟨rfl, hq⟩
          unfold slVal
          have hfb : Hid (Fr wo wb) := hq
          have kb := Lib.hid (heap_alloc_new wb (.cells #[.int .u64 (P : Nat), .int .u64 (Q : Nat)] 184))
          have k8 := fun o => (cells2 ((((Fr.refl wb).alloc o)).blk (hq.blk hb8.out)))
          have k80 := fun o => (k8 o).1
          have k81 := fun o => (k8 o).2
          obtain ⟨kb0, kb1⟩ := cells2 kb.out
          clear hq k8
          go_wp2_with fail
          refine (r4below_calls ln ld (P : Nat) (Q : Nat) hbd.1 hbd.2.1 (by omega) (by omega) _).mono ?_
          rintro e wz ⟨rfl, hz⟩
          have hfz : Hid (Fr wo wz) := (hfb.out.alloc _).trans hz
          have hbz : Hid (wz.heap[w.heap.size]? = some (.cells #[.int .u64 ln, .int .u64 ld] 184 (0, 0))) := hfz.out.blk hb8.out
          have hbz9 : Hid (wz.heap[w.heap.size + 1]? = some (.cells #[.int .u64 tn, .int .u64 td] 184 (0, 0))) := hfz.out.blk hb9.out
          obtain ⟨z0, z1⟩ := cells2 (hz.blk kb.out)
          have y0 := blk_frozen hbz.out 0
          have y1 := blk_frozen hbz.out 1
          obtain ⟨y2, y3⟩ := cells2 hbz.out
          clear hz kb k80 k81 kb0 kb1
          cases hbl : slBelow ln ld (P : Nat) (Q : Nat)
          · have HBLW := Lib.hid hbl
            clear hbl
            go_wp2_with fail
            go_meet
            refine ⟨ln, ld, ?_, hbz, hbz9, ⟨hbd.1, hbd.2.1⟩, hf.out.trans hfz.out⟩
            refine LowTo.stay (s := (P : Nat)) (t := (Q : Nat)) hlow.out (HHX.out i (Nat.le_refl _)) (by have := HS.out.1; omega) ?_ (by rw [HEQ.out.1, HEQ.out.2]; exact HS.out.2.2)
            have h1 := HBLW.out
            rw [slBelow_lt (by have := hlow.out.pos; omega) (by have := HS.out.1; omega)] at h1
            have := of_decide_eq_false h1
            omega
          · have HBLW := Lib.hid hbl
            clear hbl
            go_wp2_with fail
            go_meet
            refine ⟨(P : Nat), (Q : Nat), ?_, blk_set (blk_set hbz.out 0 _) 1 _, blk_set_ne (blk_set_ne hbz9.out (by simp) _) (by simp) _, by omega, ((hf.out.trans hfz.out).set (p := ⟨w.heap.size, 0, none⟩) (Nat.le_refl _) _).set (p := ⟨w.heap.size, 1, none⟩) (Nat.le_refl _) _⟩
            refine LowTo.take HRI.out hlow.out HHX.out (by have := HS.out.1; omega) (by omega) HS.out.2.1 ?_ (by rw [HEQ.out.1, HEQ.out.2]; exact HS.out.2.2)
            have h1 := HBLW.out
            rw [slBelow_lt (by have := hlow.out.pos; omega) (by have := HS.out.1; omega)] at h1
            exact of_decide_eq_true h1
        · have d1 : decide ((n : Int) - i - 2 * e0 > 0) = false := decide_eq_false hC
          go_wp2_with fail
          go_meet
          refine ⟨ln, ld, hlow.out.keep ?_, hb8, hb9, ⟨hbd.1, hbd.2.1⟩, hf⟩
          rw [HEQ.out.1, HEQ.out.2]
          have h1 : ((n : Int) - i - 2 * e0) * ld ≤ 0 := Int.mul_nonpos_of_nonpos_of_nonneg (by omega) hbd.2.1.1
          have h2 : 0 ≤ ln * (X : Int) := Int.mul_nonneg hbd.1.1 (by omega)
          omega
      case rest =>
        obtain ⟨ln', ld', hlow', hb8', hb9', hbd', hf'⟩ := hcut
        obtain ⟨wa, hwa⟩ : ∃ wa, wa = wc := ⟨_, rfl⟩
        subst hwa
        obtain ⟨T, hTT⟩ : ∃ T : Nat, (n : Int) - i + 2 * e0 = (T : Int) := ⟨((n : Int) - i + 2 * e0).toNat, by omega⟩
        obtain ⟨s1, s2, s3, s4, s5⟩ := lowest_spec T X hX0
        obtain ⟨P, hP⟩ : ∃ P, P = T / Nat.gcd T X := ⟨_, rfl⟩
        obtain ⟨Q, hQ⟩ : ∃ Q, Q = X / Nat.gcd T X := ⟨_, rfl⟩
        have HR4 := Lib.hid (fun w => r4lowest_calls T X (by omega) (by omega) hX0 w)
        rw [← hP] at s2 s3 HR4
        rw [← hQ] at s1 s2 s3 HR4
        rw [← hTT] at s3 HR4
        have HS := Lib.hid (And.intro s1 (And.intro s2 s3))
        have hPQ : P < 18446744073709551616 ∧ Q < 18446744073709551616 := by rw [hP, hQ]; omega
        clear s1 s2 s3 s4 s5 hP hQ hTT f0 f1 f2 f3 f4 f5 c1 w4
        go_wp2_with fail
        refine (HR4.out _).mono ?_
        rintro e wb ⟨rfl, hq⟩
        unfold slVal
        have hfb : Hid (Fr wa wb) := hq
        have kb := Lib.hid (heap_alloc_new wb (.cells #[.int .u64 (P : Nat), .int .u64 (Q : Nat)] 184))
        have k8 := fun o => (cells2 ((((Fr.refl wb).alloc o)).blk (hq.blk hb9'.out)))
        have k80 := fun o => (k8 o).1
        have k81 := fun o => (k8 o).2
        obtain ⟨kb0, kb1⟩ := cells2 kb.out
        clear hq k8
        go_wp2_with fail
        refine (r4below_calls (P : Nat) (Q : Nat) tn td (by omega) (by omega) hbd.2.2.1 hbd.2.2.2 _).mono ?_
        rintro e wz ⟨rfl, hz⟩
        have hfz : Hid (Fr wa wz) := (hfb.out.alloc _).trans hz
        have hbz : Hid (wz.heap[w.heap.size]? = some (.cells #[.int .u64 ln', .int .u64 ld'] 184 (0, 0))) := hfz.out.blk hb8'.out
        have hbz9 : Hid (wz.heap[w.heap.size + 1]? = some (.cells #[.int .u64 tn, .int .u64 td] 184 (0, 0))) := hfz.out.blk hb9'.out
        obtain ⟨z0, z1⟩ := cells2 (hz.blk kb.out)
        have y0 := blk_frozen hbz9.out 0
        have y1 := blk_frozen hbz9.out 1
        obtain ⟨y2, y3⟩ := cells2 hbz9.out
        clear hz kb k80 k81 kb0 kb1
        have wi : IntKind.i64.wrap ((i : Int) + 1) = (i : Int) + 1 := wrap_i64_in _ (by omega) (by omega)
        cases hbl : slBelow (P : Nat) (Q : Nat) tn td
        · have HBLW := Lib.hid hbl
          clear hbl
          go_wp2_with fail
          refine ⟨⟨i + 1, ln', ld', tn, td, rfl, by omega, hlow', ?_, hbz, hbz9, ⟨hbd'.1, hbd'.2, hbd.2.2⟩, hf'.out.trans hfz.out⟩, by simp only [intOf]; omega⟩
          have h1 := HBLW.out
          have hd : td ≠ 0 := by
            intro h0
            subst h0
            unfold slBelow at h1
            have := HS.out.1
            rw [if_pos rfl] at h1
            simp at h1
            omega
          rw [slBelow_lt (by have := HS.out.1; omega) hd] at h1
          refine TopTo.stay (s := (P : Nat)) (t := (Q : Nat)) htop.out (by omega) (HHX.out i (Nat.le_refl _)) (by have := HS.out.1; omega) ?_ (by rw [HEQ.out.1, HEQ.out.2]; exact HS.out.2.2)
          have := of_decide_eq_false h1
          omega
        · have HBLW := Lib.hid hbl
          clear hbl
          go_wp2_with fail
          refine ⟨⟨i + 1, ln', ld', (P : Nat), (Q : Nat), rfl, by omega, hlow', ?_, blk_set_ne (blk_set_ne hbz.out (by simp) _) (by simp) _, blk_set (blk_set hbz9.out 0 _) 1 _, ⟨hbd'.1, hbd'.2, by omega, by omega⟩, ((hf'.out.trans hfz.out).set (p := ⟨w.heap.size + 1, 0, none⟩) (Nat.le_succ _) _).set (p := ⟨w.heap.size + 1, 1, none⟩) (Nat.le_succ _) _⟩, by simp only [intOf]; omega⟩
          refine TopTo.take HRI.out (by have := HN.out; omega) htop.out HHX.out (by have := HS.out.1; omega) (by omega) HS.out.2.1 ?_ (by rw [HEQ.out.1, HEQ.out.2]; exact HS.out.2.2)
          have h1 := HBLW.out
          by_cases hd : td = 0
          · subst hd
            have h3 : tn = 1 := by
              rcases htop.out.at' with ⟨h4, _⟩ | ⟨h4, _⟩
              · exact h4
              · omega
            subst h3
            have := HS.out.1
            simp
            omega
          · rw [slBelow_lt (by have := HS.out.1; omega) hd] at h1
            exact of_decide_eq_true h1
    · obtain rfl : i = n := by omega
      have g1 : decide (i < i) = false := by simp
      obtain ⟨k80, k81⟩ := cells2 hb8.out
      obtain ⟨k90, k91⟩ := cells2 hb9.out
      go_wp2_with fail
      refine (r4below_calls tn td ln ld hbd.2.2.1 hbd.2.2.2 hbd.1 hbd.2.1 _).mono ?_
      rintro e wz ⟨rfl, hz⟩
      have HFZ : Hid (Fr w wz) := hf.out.trans hz
      have HLF : Hid (IsLow e0 (ks ++ [key]) ln ld) := by
        have := hlow.out
        rw [HN.out] at this
        exact this.fin
      have HTF : Hid (IsTop e0 (ks ++ [key]) tn td) := by
        have := htop.out
        rw [HN.out] at this
        exact this.fin
      cases hbl : slBelow tn td ln ld
      · have HBLW := Lib.hid hbl
        clear hbl k80 k81 k90 k91
        obtain ⟨f0, f1, f2, f3, f4, f5⟩ := HOF.out wz HFZ.out
        go_wp2_with (at_builtin; refine gate ?_)
        refine gate_app rfl _ _ 57 rfl 50 (.int .u64 0) 1 8 Tryz.underlying57 info_u64r rfl (by omega) (by omega) base A i c (ks.map uv) (some ⟨wz.heap.size, 0, none⟩) 1 1 [.int .u64 key] (by rfl) (by rfl)
          ((HN.out ▸ HOWN.out.fr HFZ.out).fr ((Fr.refl wz).alloc _)) rfl (RdC.blk (Blk.new wz _ _)) (by intro u hu; simp at hu; subst hu; rfl) (by omega) (by have := HFZ.out.size; have := HBW.out; simp; omega) ?_
        intro A2 c2 w6 hown6 hgr hat
        have HM6 : Hid (Mv (fun k => ablk A = some k) wz w6) := ((Mv.of_fr ((Fr.refl wz).alloc _)).grown hgr.out (fun k hk => .inl hk))
        have HNG : Hid (ablk A ≠ some g) := fun h => by
          obtain ⟨cs, h1⟩ := own_ty HOWN.out h
          rw [HAT.out] at h1
          injection h1 with h1
          injection h1 with _ h2 _
          revert h2
          decide
        have HB8 : Hid (w6.heap[w.heap.size]? = some (.cells #[.int .u64 ln, .int .u64 ld] 184 (0, 0))) := HM6.out.blk (hz.blk hb8.out) (fun h => by have := (HOWN.out.lt _ h).2; omega)
        have HB9 : Hid (w6.heap[w.heap.size + 1]? = some (.cells #[.int .u64 tn, .int .u64 td] 184 (0, 0))) := HM6.out.blk (hz.blk hb9.out) (fun h => by have := (HOWN.out.lt _ h).2; omega)
        have HGW : Hid (w6.heap[g]? = some (.cells (rfCells (e0 + 1) A i c _ _ _ _) 186 (0, 0))) := HM6.out.blk (HFZ.out.blk HAT.out) HNG.out
        have HOWN6 := hown6
        have hg8 : w.heap.size ≠ g := by have := blk_lt HAT.out; omega
        have hg9 : w.heap.size + 1 ≠ g := by have := blk_lt HAT.out; omega
        clear hown6 hgr hat f0 f1 f2 f3 f4 f5
        obtain ⟨f0, f1, f2, f3, f4, f5⟩ := rf_cells HGW.out
        obtain ⟨k80, k81⟩ := cells2 HB8.out
        obtain ⟨k90, k91⟩ := cells2 HB9.out
        have z1 := blk_frozen HGW.out 1
        have z2 := blk_frozen HGW.out 2
        have z3 := blk_frozen HGW.out 3
        have z4 := blk_frozen HGW.out 4
        have z5 := blk_frozen HGW.out 5
        go_wp2_with fail
        go_ret2
        have hsm : Mv (one1 g) w6 (((((w6.setCell ⟨g, 1, none⟩ (.slice A2 (i + 1) c2)).setCell ⟨g, 2, none⟩ (.int .u64 ln)).setCell ⟨g, 3, none⟩ (.int .u64 ld)).setCell ⟨g, 4, none⟩ (.int .u64 tn)).setCell ⟨g, 5, none⟩ (.int .u64 td)) := mv_set1 (mv_set1 (mv_set1 (mv_set1 (mv_set1 (Mv.refl _ w6)))))
        have hlen : (ks ++ [key]).length = i + 1 := by simp [HN.out]
        have hs1 : ∀ k, ablk A = some k → base ≤ k ∧ RfTy w k := fun k hk => ⟨(HOWN.out.lt k hk).1, by
          obtain ⟨cs, h1⟩ := own_ty HOWN.out hk
          exact ⟨_, _, _, h1, .inr rfl⟩⟩
        have hs2 : ∀ k, one1 g k → base ≤ k ∧ RfTy w k := fun k hk => by
          obtain rfl : k = g := hk
          exact ⟨HGB.out, _, _, _, HAT.out, .inl rfl⟩
        have ho : Own (((((w6.setCell ⟨g, 1, none⟩ (.slice A2 (i + 1) c2)).setCell ⟨g, 2, none⟩ (.int .u64 ln)).setCell ⟨g, 3, none⟩ (.int .u64 ld)).setCell ⟨g, 4, none⟩ (.int .u64 tn)).setCell ⟨g, 5, none⟩ (.int .u64 td)) base 50 1 A2 (ks ++ [key]).length c2 ((ks ++ [key]).map uv) := by
          rw [hlen, List.map_append]
          refine Own.mv HOWN6 hsm (fun k hk h => ?_)
          obtain rfl : k = g := h
          obtain ⟨cs, h1⟩ := own_ty HOWN6 hk
          rw [HGW.out] at h1
          injection h1 with h1
          injection h1 with _ h2 _
          revert h2
          decide
        have hko : KeysOk (ks ++ [key]) := by
          intro k hk'
          rcases List.mem_append.1 hk' with h | h
          · exact HK.out k h
          · simp at h; subst h; exact hk
        refine ⟨((Mv.of_fr HFZ.out).trans HM6.out (fun k hk => .inl (hs1 k hk))).trans hsm (fun k hk => .inl (hs2 k hk)), .inl ⟨⟨ln, ld, tn, td, HLF.out, HTF.out, HBLW.out⟩, rfl, ln, ld, A2, c2, tn, td, ?_, ho, HR'.out, hko, HLF.out, HTF.out, HBLW.out⟩⟩
        rw [hlen]
        exact blk_set (blk_set (blk_set (blk_set (blk_set HGW.out 1 _) 2 _) 3 _) 4 _) 5 _
      · have HBLW := Lib.hid hbl
        clear hbl
        go_wp2_with fail
        go_ret2
        exact ⟨Mv.of_fr HFZ.out, .inr ⟨⟨ln, ld, tn, td, HLF.out, HTF.out, HBLW.out⟩, rfl⟩⟩
end Go.Proofs.YthjimnmgbcckjaaGreat
namespace Go.Proofs.YthjimnmgbcckjaaGreat
set_option maxRecDepth 100000
open Go.RowKit Go.Inc Go.Run

set_option maxHeartbeats 4000000 in
theorem r6ends_calls (L : List Int) (A : Option Addr) (n c : Nat) (eps : Int) (hn : n = L.length) (hl : L.length < 4294967296) (he : 2 ≤ eps ∧ eps ≤ 64) (hR : Rise L) (hK : KeysOk L) (w : World) (hr : RdC w A (L.map uv)) :
    Calls Tryz.prog 100 #[.slice A n c, .int .i64 eps] w fun r w' => ∃ (E : List Nat) (A' : Option Addr) (c' : Nat), r = .returned (.tuple #[.slice A' E.length c', .int .i64 0]) ∧ Cuts (eps - 1) L 0 E L.length ∧ Own w' w.heap.size 3 1 A' E.length c' (E.map iv) ∧ Fr w w' := by
  have HR := Lib.hid hr
  have HN := Lib.hid hn
  have HRI := Lib.hid hR
  have HK := Lib.hid hK
  have hln : n < 4294967296 := by omega
  have hE := he
  clear hr hn hR hK hl
  go_enter Tryz.func100, Tryz.ntmps100
  go_wp2_with fail
  refine (r4new_calls eps hE w.heap.size w).mono ?_
  rintro r w2 ⟨g0, rfl, hg0, hf2, hfk⟩
  have HFK := Lib.hid hfk
  have HF2 := Lib.hid hf2
  have HG := Lib.hid hg0
  clear hfk hf2 hg0
  go_wp2_with fail
  refine (r3rising_calls L _ n c HN.out (by omega) _ (HR.out.fr HF2.out)).mono ?_
  rintro r w3 ⟨rfl, hf3⟩
  have hris : decide (Rise L) = true := decide_eq_true HRI.out
  rw [hris]
  have HF3 : Hid (Fr w w3) := HF2.out.trans hf3
  have HFK3 : Hid (RFit w3 g0 w.heap.size (eps - 1) [] 0 1) := rfit_fr HFK.out hf3
  clear hris hf3
  go_wp2_with fail
  go_loopw [6, 8, 9] (fun vf ve v wr => ∃ (g : Nat) (E : List Nat) (EN : Nat) (A' : Option Addr) (c' s i : Nat), vf = .pointer (some ⟨g, 0, none⟩) ∧ ve = .slice A' EN c' ∧ v = .int .i64 i ∧ EN = E.length ∧ s ≤ i ∧ i ≤ n ∧ Hid (0 < i → s < i) ∧ Hid (Cuts (eps - 1) L 0 E s) ∧ Hid (FitsAll (eps - 1) (seg L s i)) ∧ Hid (Own wr w.heap.size 3 1 A' EN c' (E.map iv)) ∧
      Hid (w.heap.size ≤ g ∧ ∃ ln ld, RFit wr g w.heap.size (eps - 1) (seg L s i) ln ld) ∧ Hid (Fr w wr)) (fun _ _ v _ => n - (intOf v).toNat)
  case atStart => exact ⟨g0, [], 0, some ⟨w3.heap.size, 0, none⟩, 0, 0, 0, rfl, rfl, rfl, rfl, by omega, by omega, fun h => by omega, rfl, by rw [Hid, seg_self]; exact fitsAll_nil _, Own.of_blk (Blk.new w3 [] _) HF3.out.size rfl (by omega), ⟨HG.out, 0, 1, by rw [seg_self]; exact rfit_fr HFK3.out ((Fr.refl w3).alloc _)⟩, HF3.out.alloc _⟩
  case round =>
    obtain ⟨g, E, EN, A', c', s, i, rfl, rfl, rfl, hEN, hsi, hin, hsl, hcu, hfa, howni, hfk, hfi⟩ := hrel
    have HEN := Lib.hid hEN
    have HEL := Lib.hid hcu.out.le
    clear hEN
    obtain ⟨wi, hwi⟩ : ∃ wi, wi = wr := ⟨_, rfl⟩
    subst hwi
    rcases Nat.lt_or_ge i n with hlt | hge
    · have g1 : decide (i < n) = true := decide_eq_true hlt
      have g1' : (i : Int) < (n : Int) := by omega
      obtain ⟨b, off, hA, hc⟩ := rdc_ky HR.out (by have := HN.out; omega)
      subst hA
      have HC := Lib.hid hc
      clear hc
      have c1 := hfi.out.cell (HC.out i (by have := HN.out; omega))
      have wi : IntKind.i64.wrap ((i : Int) + 1) = (i : Int) + 1 := wrap_i64_in _ (by omega) (by omega)
      have hkb := Lib.hid (HK.out.ky (show i < L.length by have := HN.out; omega))
      obtain ⟨hgb, ln, ld, hfk⟩ := hfk.out
      have HGB := Lib.hid hgb
      have HFKI := Lib.hid hfk
      have hlen := Lib.hid (seg_len (L := L) hsi (by have := HN.out; omega))
      clear hgb hfk
      obtain ⟨K, hKK⟩ : ∃ K, K = ky L i := ⟨_, rfl⟩
      rw [← hKK] at c1
      have HKK := Lib.hid hKK
      clear hKK
      go_wp2_with fail
      rw [HKK.out]
      refine (r4add_calls g w.heap.size (eps - 1) (ky L i) ln ld (seg L s i) _ rfl (by omega) (by rw [hlen.out]; omega) hkb.out (fun hp => ?_) _ HFKI.out HGB.out hfi.out.size).mono ?_
      · rw [hlen.out] at hp ⊢
        rw [seg_ky (by omega)]
        exact rise_lt HRI.out (by omega) (by have := HN.out; omega)
      · rintro r w4 ⟨hmv, hor⟩
        rw [← seg_snoc hsi (by have := HN.out; omega)] at hor
        have hf4 : Hid (Fr w w4) := hfi.out.mv hmv (fun k hk => hk.1)
        have hown4 : Hid (Own w4 w.heap.size 3 1 A' EN c' (E.map iv)) := howni.out.mv hmv (fun k hk h => own_not_rf howni.out (by decide) k hk h.2)
        rcases hor with ⟨hfit, rfl, hfk4⟩ | ⟨hno, rfl⟩
        · have HFK4 := Lib.hid hfk4
          have HFIT : Hid (FitsAll (eps - 1) (seg L s (i + 1))) := by
            rw [Hid, seg_snoc hsi (by have := HN.out; omega)]
            exact hfa.out.snoc (by rw [← seg_snoc hsi (by have := HN.out; omega)]; exact hfit)
          clear hmv hfk4 hfit c1
          go_wp2_with fail
          exact ⟨⟨g, E, EN, A', c', s, i + 1, rfl, rfl, rfl, HEN.out, by omega, by omega, fun _ => by omega, hcu, HFIT, hown4, ⟨HGB.out, HFK4.out⟩, hf4⟩, by simp only [intOf]; omega⟩
        · have hsi2 : s < i := by
            rcases Nat.lt_or_ge s i with h | h
            · exact h
            · obtain rfl : s = i := by omega
              refine absurd ?_ (hno.not (seg_rise HRI.out _ _))
              rw [seg_snoc (Nat.le_refl _) (by have := HN.out; omega), seg_self]
              exact fits_nil_snoc _ _
          have HCO : Hid (CutOk (eps - 1) L s i) := ⟨hsi2, by have := HN.out; omega, hfa.out, fun _ => hno⟩
          clear hmv hno c1
          go_wp2_with (at_builtin; refine gate ?_)
          refine gate_app rfl _ _ 153 rfl 3 (.int .i64 0) 1 8 Tryz.underlying153 info_int rfl (by omega) (by omega) w.heap.size A' EN c' _ (some ⟨w4.heap.size, 0, none⟩) 1 1 [.int .i64 (i : Nat)] (by rfl) (by rfl)
            ((hown4.out.fr ((Fr.refl w4).alloc _))) rfl (RdC.blk (Blk.new w4 _ _)) (by intro u hu; simp at hu; subst hu; rfl) (by have := HEL.out; have := HEN.out; omega) (by have := hf4.out.size; simp; omega) ?_
          intro A2 c2 w6 hown6 hgr hat
          have HM6 : Hid (Mv (fun k => ablk A' = some k) w4 w6) := ((Mv.of_fr ((Fr.refl w4).alloc _)).grown hgr.out (fun k hk => .inl hk))
          have HF6 : Hid (Fr w w6) := hf4.out.mv HM6.out (fun k hk => (hown4.out.lt k hk).1)
          have HOWN6 := hown6
          clear hown6 hgr hat
          go_wp2_with fail
          refine (r4new_calls eps hE w.heap.size w6).mono ?_
          rintro r w5 ⟨g5, rfl, hg5, hf5, hfk5⟩
          have HFK5 := Lib.hid hfk5
          have HF5 := Lib.hid hf5
          have HG5 : Hid (w.heap.size ≤ g5) := Nat.le_trans HF6.out.size hg5
          have HF5w : Hid (Fr w w5) := HF6.out.trans hf5
          clear hfk5 hf5 hg5
          have c1 := HF5w.out.cell (HC.out i (by have := HN.out; omega))
          rw [← HKK.out] at c1
          go_wp2_with fail
          rw [HKK.out]
          refine (r4add_calls g5 w.heap.size (eps - 1) (ky L i) 0 1 [] 0 rfl (by omega) (by omega) hkb.out (fun hp => absurd hp (by simp)) _ HFK5.out HG5.out HF5w.out.size).mono ?_
          rintro r w7 ⟨hmv, hor⟩
          have hf7 : Hid (Fr w w7) := HF5w.out.mv hmv (fun k hk => hk.1)
          have hown7 : Hid (Own w7 w.heap.size 3 1 A2 (EN + 1) c2 ((E ++ [i]).map iv)) := by
            rw [List.map_append]
            exact (HOWN6.out.fr HF5.out).mv hmv (fun k hk h => own_not_rf (HOWN6.out.fr HF5.out) (by decide) k hk h.2)
          have hsg : seg L i (i + 1) = [] ++ [ky L i] := by rw [seg_snoc (Nat.le_refl _) (by have := HN.out; omega), seg_self]
          rcases hor with ⟨hfit, rfl, hfk7⟩ | ⟨hno, rfl⟩
          · rw [← hsg] at hfk7 hfit
            have HFK7 := Lib.hid hfk7
            have HFIT : Hid (FitsAll (eps - 1) (seg L i (i + 1))) := by
              rw [Hid, hsg]
              exact (fitsAll_nil _).snoc (by rw [← hsg]; exact hfit)
            clear hmv hfk7 hfit c1 hsg
            go_wp2_with fail
            exact ⟨⟨g5, E ++ [i], EN + 1, A2, c2, i, i + 1, rfl, rfl, rfl, by simp [HEN.out], by omega, by omega, fun _ => by omega, hcu.out.snoc HCO.out, HFIT, hown7, ⟨HG5.out, HFK7.out⟩, hf7⟩, by simp only [intOf]; omega⟩
          · refine absurd (fits_nil_snoc _ _) (hno.not ?_)
            rw [← hsg]
            exact seg_rise HRI.out _ _
    · obtain rfl : i = n := by omega
      have g1 : decide (i < i) = false := by simp
      by_cases h0 : 0 < i
      · have g2 : decide ((i : Int) > 0) = true := decide_eq_true (by omega)
        have g3 : (0 : Int) < (i : Int) := by omega
        have HCO : Hid (CutOk (eps - 1) L s i) := ⟨hsl.out h0, by have := HN.out; omega, hfa.out, fun h => by have := HN.out; omega⟩
        clear h0
        go_wp2_with (at_builtin; refine gate ?_)
        refine gate_app rfl _ _ 153 rfl 3 (.int .i64 0) 1 8 Tryz.underlying153 info_int rfl (by omega) (by omega) w.heap.size A' EN c' _ (some ⟨wi.heap.size, 0, none⟩) 1 1 [.int .i64 (i : Nat)] (by rfl) (by rfl)
          ((howni.out.fr ((Fr.refl wi).alloc _))) rfl (RdC.blk (Blk.new wi _ _)) (by intro u hu; simp at hu; subst hu; rfl) (by have := HEL.out; have := HEN.out; omega) (by have := hfi.out.size; simp; omega) ?_
        intro A2 c2 w6 hown6 hgr hat
        have HM6 : Hid (Mv (fun k => ablk A' = some k) wi w6) := ((Mv.of_fr ((Fr.refl wi).alloc _)).grown hgr.out (fun k hk => .inl hk))
        have HF6 : Hid (Fr w w6) := hfi.out.mv HM6.out (fun k hk => (howni.out.lt k hk).1)
        have HOWN6 := hown6
        have HCF : Hid (Cuts (eps - 1) L 0 (E ++ [i]) L.length) := by have := hcu.out.snoc HCO.out; rwa [HN.out] at this ⊢
        clear hown6 hgr hat
        go_wp2_with fail
        go_ret2
        refine ⟨E ++ [i], A2, c2, ?_, HCF.out, ?_, HF6.out⟩
        · rw [List.length_append, ← HEN.out]; rfl
        · rw [List.length_append, ← HEN.out, List.map_append]; exact HOWN6.out
      · have g2 : decide ((i : Int) > 0) = false := decide_eq_false (by omega)
        have g3 : ¬ (0 : Int) < (i : Int) := by omega
        have HCF : Hid (Cuts (eps - 1) L 0 E L.length) := by
          have h1 : s = L.length := by have := HN.out; omega
          have := hcu.out
          rwa [h1] at this
        go_wp2_with fail
        go_ret2
        exact ⟨E, A', c', by rw [← HEN.out]; rfl, HCF.out, by rw [← HEN.out]; exact howni.out, hfi.out⟩
end Go.Proofs.YthjimnmgbcckjaaGreat
namespace Go.Run
/-- A digit. -/
def dg (N j : Nat) : Nat := N / 65536 ^ j % 65536
theorem dg_lt (N j : Nat) : dg N j < 65536 := Nat.mod_lt _ (by decide)
theorem dg_next (N j : Nat) : N / 65536 ^ j / 65536 = N / 65536 ^ (j + 1) := by rw [Nat.div_div_eq_div_mul, Nat.pow_succ]
theorem dg_split (N j : Nat) : N / 65536 ^ j = N / 65536 ^ (j + 1) * 65536 + dg N j := by
  rw [← dg_next]; unfold dg; omega
theorem dg_low {hi lo j : Nat} (hj : j < 4) : dg (hi * 18446744073709551616 + lo) j = dg lo j := by
  obtain rfl | rfl | rfl | rfl : j = 0 ∨ j = 1 ∨ j = 2 ∨ j = 3 := by omega
  all_goals (unfold dg; simp only [Nat.reducePow, Nat.pow_zero, Nat.pow_one]; omega)
theorem dg_high {hi lo j : Nat} (hlo : lo < 18446744073709551616) (hj : j < 4) : dg (hi * 18446744073709551616 + lo) (4 + j) = dg hi j := by
  obtain rfl | rfl | rfl | rfl : j = 0 ∨ j = 1 ∨ j = 2 ∨ j = 3 := by omega
  all_goals (unfold dg; simp only [Nat.reducePow, Nat.pow_zero, Nat.pow_one, Nat.reduceAdd]; omega)
/-- The carry ahead of a digit of a sum. -/
def cadd (a b i : Nat) : Nat := (a % 65536 ^ i + b % 65536 ^ i) / 65536 ^ i
theorem cadd_zero (a b : Nat) : cadd a b 0 = 0 := by unfold cadd; simp [Nat.mod_one]
theorem cadd_le (a b i : Nat) : cadd a b i ≤ 1 := by
  unfold cadd
  have h0 : 0 < 65536 ^ i := Nat.pow_pos (by decide)
  have h1 := Nat.mod_lt a h0
  have h2 := Nat.mod_lt b h0
  have : (a % 65536 ^ i + b % 65536 ^ i) / 65536 ^ i < 2 := Nat.div_lt_of_lt_mul (by omega)
  omega
theorem cadd_next (a b i : Nat) : (dg a i + dg b i + cadd a b i) / 65536 = cadd a b (i + 1) := by
  unfold cadd
  have h0 : 0 < 65536 ^ i := Nat.pow_pos (by decide)
  rw [Nat.mod_pow_succ, Nat.mod_pow_succ, Nat.pow_succ, ← Nat.div_div_eq_div_mul]
  rw [show a % 65536 ^ i + 65536 ^ i * (a / 65536 ^ i % 65536) + (b % 65536 ^ i + 65536 ^ i * (b / 65536 ^ i % 65536)) = (a % 65536 ^ i + b % 65536 ^ i) + 65536 ^ i * (dg a i + dg b i) by unfold dg; rw [Nat.mul_add]; omega]
  rw [Nat.add_mul_div_left _ _ h0, Nat.add_comm]
theorem cadd_dg (a b i : Nat) : (dg a i + dg b i + cadd a b i) % 65536 = dg (a + b) i := by
  have h0 : 0 < 65536 ^ i := Nat.pow_pos (by decide)
  have h1 : (a + b) / 65536 ^ i = a / 65536 ^ i + b / 65536 ^ i + cadd a b i := by
    unfold cadd
    have ea := Nat.div_add_mod a (65536 ^ i)
    have eb := Nat.div_add_mod b (65536 ^ i)
    have e : a + b = (a % 65536 ^ i + b % 65536 ^ i) + 65536 ^ i * (a / 65536 ^ i + b / 65536 ^ i) := by rw [Nat.mul_add]; omega
    conv => lhs; rw [e]
    rw [Nat.add_mul_div_left _ _ h0, Nat.add_comm]
  unfold dg
  rw [h1]
  omega
/-- The carry ahead of a digit of a product with one digit. -/
def cmul (x b k : Nat) : Nat := x * (b % 65536 ^ k) / 65536 ^ k
theorem cmul_zero (x b : Nat) : cmul x b 0 = 0 := by unfold cmul; simp [Nat.mod_one]
theorem cmul_le {x : Nat} (hx : x < 65536) (b k : Nat) : cmul x b k < 65536 := by
  unfold cmul
  have h0 : 0 < 65536 ^ k := Nat.pow_pos (by decide)
  have h2 := Nat.mod_lt b h0
  refine Nat.div_lt_of_lt_mul ?_
  rw [Nat.mul_comm]
  exact Nat.mul_lt_mul_of_lt_of_le h2 (by omega) (by decide)
theorem cmul_next (x b k : Nat) : (x * dg b k + cmul x b k) / 65536 = cmul x b (k + 1) := by
  unfold cmul
  have h0 : 0 < 65536 ^ k := Nat.pow_pos (by decide)
  rw [Nat.mod_pow_succ, Nat.pow_succ, ← Nat.div_div_eq_div_mul, Nat.mul_add, Nat.mul_left_comm, Nat.add_mul_div_left _ _ h0, Nat.add_comm]
  rfl
theorem cmul_dg (x b k : Nat) : (x * dg b k + cmul x b k) % 65536 = dg (x * b) k := by
  have h0 : 0 < 65536 ^ k := Nat.pow_pos (by decide)
  have h1 : x * b / 65536 ^ k = x * (b / 65536 ^ k) + cmul x b k := by
    unfold cmul
    have eb := Nat.div_add_mod b (65536 ^ k)
    have e : x * b = x * (b % 65536 ^ k) + 65536 ^ k * (x * (b / 65536 ^ k)) := by
      conv => lhs; rw [← eb]
      rw [Nat.mul_add, Nat.mul_left_comm, Nat.add_comm]
    conv => lhs; rw [e]
    rw [Nat.add_mul_div_left _ _ h0, Nat.add_comm]
  unfold dg
  rw [h1, Nat.add_mod, Nat.mul_mod, Nat.mod_mod, ← Nat.mul_mod, ← Nat.add_mod]
theorem dg_shift (N i k : Nat) : dg (65536 ^ i * N) (i + k) = dg N k := by
  unfold dg
  rw [Nat.pow_add, ← Nat.div_div_eq_div_mul, Nat.mul_div_cancel_left _ (Nat.pow_pos (by decide))]
theorem dg_shift_low {i j : Nat} (N : Nat) (h : j < i) : dg (65536 ^ i * N) j = 0 := by
  unfold dg
  rw [show i = j + (1 + (i - j - 1)) by omega, Nat.pow_add, Nat.mul_assoc, Nat.mul_div_cancel_left _ (Nat.pow_pos (by decide)), Nat.pow_add, Nat.pow_one, Nat.mul_assoc, Nat.mul_mod_right]
end Go.Run
namespace Go.Proofs.YthjimnmgbcckjaaGreat
open Go.RowKit Go.Inc Go.Run
/-- A number of the reference: 8 digits. -/
def numC (f : Nat → Nat) : Array Value := #[.int .i64 (f 0 : Nat), .int .i64 (f 1 : Nat), .int .i64 (f 2 : Nat), .int .i64 (f 3 : Nat), .int .i64 (f 4 : Nat), .int .i64 (f 5 : Nat), .int .i64 (f 6 : Nat), .int .i64 (f 7 : Nat)]
def numV (f : Nat → Nat) : Value := .agg (numC f)
theorem numC_get (f : Nat → Nat) {i : Nat} (h : i < 8) : (numC f)[i]? = some (.int .i64 (f i : Nat)) := by
  obtain rfl | rfl | rfl | rfl | rfl | rfl | rfl | rfl : i = 0 ∨ i = 1 ∨ i = 2 ∨ i = 3 ∨ i = 4 ∨ i = 5 ∨ i = 6 ∨ i = 7 := by omega
  all_goals rfl
theorem numC_ext {f g : Nat → Nat} (h : ∀ j, j < 8 → f j = g j) : numC f = numC g := by
  unfold numC
  rw [h 0 (by decide), h 1 (by decide), h 2 (by decide), h 3 (by decide), h 4 (by decide), h 5 (by decide), h 6 (by decide), h 7 (by decide)]
theorem numC_set (f g : Nat → Nat) {i v : Nat} (h : i < 8) (h1 : g i = v) (h2 : ∀ j, j < 8 → j ≠ i → g j = f j) : (numC f).setIfInBounds i (.int .i64 (v : Nat)) = numC g := by
  have h3 : ∀ i, i < 8 → ∀ v : Nat, (numC f).setIfInBounds i (.int .i64 (v : Nat)) = numC (fun j => if j = i then v else f j) := by
    intro i hi v
    obtain rfl | rfl | rfl | rfl | rfl | rfl | rfl | rfl : i = 0 ∨ i = 1 ∨ i = 2 ∨ i = 3 ∨ i = 4 ∨ i = 5 ∨ i = 6 ∨ i = 7 := by omega
    all_goals rfl
  rw [h3 i h]
  refine numC_ext (fun j hj => ?_)
  split
  · rename_i e
    subst e
    exact h1.symm
  · rename_i e
    exact (h2 j hj e).symm
theorem num_cells {w : World} {g : Nat} {f : Nat → Nat} {e : TypeId} (h : w.heap[g]? = some (.cells (numC f) e (0, 0))) : ∀ i, i < 8 → w.cell? ⟨g, i, none⟩ = some (.int .i64 (f i : Nat)) := fun i hi => by rw [blk_cell h, numC_get f hi]
theorem num_set {w : World} {g : Nat} {f : Nat → Nat} {e : TypeId} (h : w.heap[g]? = some (.cells (numC f) e (0, 0))) (f' : Nat → Nat) {i v : Nat} (hi : i < 8) (h1 : f' i = v) (h2 : ∀ j, j < 8 → j ≠ i → f' j = f j) : (w.setCell ⟨g, i, none⟩ (.int .i64 (v : Nat))).heap[g]? = some (.cells (numC f') e (0, 0)) := by
  rw [← numC_set f f' hi h1 h2]
  exact blk_set h i _
end Go.Proofs.YthjimnmgbcckjaaGreat
namespace Go.Proofs.YthjimnmgbcckjaaGreat
set_option maxRecDepth 100000
open Go.RowKit Go.Inc Go.Run

/-- An Int that is not below 0. -/
def bigV (N : Nat) : Value := .agg #[.int .i64 (N / 18446744073709551616 : Nat), .int .u64 (N % 18446744073709551616 : Nat)]

def z8 : Array Value := #[.int .i64 0, .int .i64 0, .int .i64 0, .int .i64 0, .int .i64 0, .int .i64 0, .int .i64 0, .int .i64 0]
theorem heap_alloc3 (w : World) (x y z : Obj) : ((((w.alloc x).alloc y).alloc z).heap[w.heap.size]? = some x ∧ (((w.alloc x).alloc y).alloc z).heap[w.heap.size + 1]? = some y ∧ (((w.alloc x).alloc y).alloc z).heap[w.heap.size + 1 + 1]? = some z) := by
  refine ⟨((Fr.refl _).alloc _).blk (heap_alloc2_old _ _ _), ((Fr.refl _).alloc _).blk (heap_alloc2_new _ _ _), ?_⟩
  have := heap_alloc_new ((w.alloc x).alloc y) z
  rwa [World.size_alloc, World.size_alloc] at this
def put8 (w : World) (g : Nat) (f : Nat → Nat) : World := (((((((w.setCell ⟨g, 0, none⟩ (.int .i64 (f 0 : Nat))).setCell ⟨g, 1, none⟩ (.int .i64 (f 1 : Nat))).setCell ⟨g, 2, none⟩ (.int .i64 (f 2 : Nat))).setCell ⟨g, 3, none⟩ (.int .i64 (f 3 : Nat))).setCell ⟨g, 4, none⟩ (.int .i64 (f 4 : Nat))).setCell ⟨g, 5, none⟩ (.int .i64 (f 5 : Nat))).setCell ⟨g, 6, none⟩ (.int .i64 (f 6 : Nat))).setCell ⟨g, 7, none⟩ (.int .i64 (f 7 : Nat))
theorem set8 (a0 a1 a2 a3 a4 a5 a6 a7 x0 x1 x2 x3 x4 x5 x6 x7 : Value) : ((((((((#[a0, a1, a2, a3, a4, a5, a6, a7].setIfInBounds 0 x0).setIfInBounds 1 x1).setIfInBounds 2 x2).setIfInBounds 3 x3).setIfInBounds 4 x4).setIfInBounds 5 x5).setIfInBounds 6 x6).setIfInBounds 7 x7) = #[x0, x1, x2, x3, x4, x5, x6, x7] := by
  apply Array.ext'
  simp only [Array.toList_setIfInBounds]
  rfl
theorem put8_blk {w : World} {g : Nat} {e : TypeId} {a0 a1 a2 a3 a4 a5 a6 a7 : Value} (h : w.heap[g]? = some (.cells #[a0, a1, a2, a3, a4, a5, a6, a7] e (0, 0))) (f : Nat → Nat) : (put8 w g f).heap[g]? = some (.cells (numC f) e (0, 0)) := by
  have h0 := blk_set h 0 (.int .i64 (f 0 : Nat))
  have h1 := blk_set h0 1 (.int .i64 (f 1 : Nat))
  have h2 := blk_set h1 2 (.int .i64 (f 2 : Nat))
  have h3 := blk_set h2 3 (.int .i64 (f 3 : Nat))
  have h4 := blk_set h3 4 (.int .i64 (f 4 : Nat))
  have h5 := blk_set h4 5 (.int .i64 (f 5 : Nat))
  have h6 := blk_set h5 6 (.int .i64 (f 6 : Nat))
  have h7 := blk_set h6 7 (.int .i64 (f 7 : Nat))
  rw [set8] at h7
  exact h7
theorem put8_far {w : World} {g k : Nat} {o : Obj} (h : w.heap[k]? = some o) (hne : g ≠ k) (f : Nat → Nat) : (put8 w g f).heap[k]? = some o :=
  blk_set_ne (blk_set_ne (blk_set_ne (blk_set_ne (blk_set_ne (blk_set_ne (blk_set_ne (blk_set_ne h hne _) hne _) hne _) hne _) hne _) hne _) hne _) hne _
theorem put8_fr {w w' : World} {g : Nat} (h : Fr w w') (hg : w.heap.size ≤ g) (f : Nat → Nat) : Fr w (put8 w' g f) :=
  (((((((h.set (p := ⟨g, 0, none⟩) hg _).set (p := ⟨g, 1, none⟩) hg _).set (p := ⟨g, 2, none⟩) hg _).set (p := ⟨g, 3, none⟩) hg _).set (p := ⟨g, 4, none⟩) hg _).set (p := ⟨g, 5, none⟩) hg _).set (p := ⟨g, 6, none⟩) hg _).set (p := ⟨g, 7, none⟩) hg _
theorem num8 {w : World} {g : Nat} {f : Nat → Nat} {e : TypeId} (h : w.heap[g]? = some (.cells (numC f) e (0, 0))) :
    w.cell? ⟨g, 0, none⟩ = some (.int .i64 (f 0 : Nat)) ∧ w.cell? ⟨g, 1, none⟩ = some (.int .i64 (f 1 : Nat)) ∧ w.cell? ⟨g, 2, none⟩ = some (.int .i64 (f 2 : Nat)) ∧ w.cell? ⟨g, 3, none⟩ = some (.int .i64 (f 3 : Nat)) ∧ w.cell? ⟨g, 4, none⟩ = some (.int .i64 (f 4 : Nat)) ∧ w.cell? ⟨g, 5, none⟩ = some (.int .i64 (f 5 : Nat)) ∧ w.cell? ⟨g, 6, none⟩ = some (.int .i64 (f 6 : Nat)) ∧ w.cell? ⟨g, 7, none⟩ = some (.int .i64 (f 7 : Nat)) := by
  have c := num_cells h
  exact ⟨c 0 (by decide), c 1 (by decide), c 2 (by decide), c 3 (by decide), c 4 (by decide), c 5 (by decide), c 6 (by decide), c 7 (by decide)⟩
theorem zer8 {w : World} {g : Nat} {e : TypeId} (h : w.heap[g]? = some (.cells z8 e (0, 0))) :
    w.cell? ⟨g, 0, none⟩ = some (.int .i64 0) ∧ w.cell? ⟨g, 1, none⟩ = some (.int .i64 0) ∧ w.cell? ⟨g, 2, none⟩ = some (.int .i64 0) ∧ w.cell? ⟨g, 3, none⟩ = some (.int .i64 0) ∧ w.cell? ⟨g, 4, none⟩ = some (.int .i64 0) ∧ w.cell? ⟨g, 5, none⟩ = some (.int .i64 0) ∧ w.cell? ⟨g, 6, none⟩ = some (.int .i64 0) ∧ w.cell? ⟨g, 7, none⟩ = some (.int .i64 0) := by
  refine ⟨?_, ?_, ?_, ?_, ?_, ?_, ?_, ?_⟩ <;> (rw [blk_cell h]; rfl)
theorem fro8 {w : World} {g : Nat} {cs : Array Value} {e : TypeId} (h : w.heap[g]? = some (.cells cs e (0, 0))) :
    w.frozen? ⟨g, 0, none⟩ = false ∧ w.frozen? ⟨g, 1, none⟩ = false ∧ w.frozen? ⟨g, 2, none⟩ = false ∧ w.frozen? ⟨g, 3, none⟩ = false ∧ w.frozen? ⟨g, 4, none⟩ = false ∧ w.frozen? ⟨g, 5, none⟩ = false ∧ w.frozen? ⟨g, 6, none⟩ = false ∧ w.frozen? ⟨g, 7, none⟩ = false :=
  ⟨blk_frozen h 0, blk_frozen h 1, blk_frozen h 2, blk_frozen h 3, blk_frozen h 4, blk_frozen h 5, blk_frozen h 6, blk_frozen h 7⟩
set_option maxHeartbeats 2000000 in
theorem r1plus_calls (a b : Nat) (w : World) : Calls Tryz.prog 168 #[numV (dg a), numV (dg b)] w fun e w' => e = .returned (numV (dg (a + b))) ∧ Fr w w' := by
  unfold numV
  go_enter Tryz.func168, Tryz.ntmps168
  go_wp2_with fail
  obtain ⟨w0, hw0⟩ : ∃ w0, w0 = ((w.alloc (.cells (numC (dg a)) 227)).alloc (.cells (numC (dg b)) 227)).alloc (.cells #[.int .i64 0, .int .i64 0, .int .i64 0, .int .i64 0, .int .i64 0, .int .i64 0, .int .i64 0, .int .i64 0] 227) := ⟨_, rfl⟩
  have h0 : Hid (w0.heap[w.heap.size]? = some (.cells (numC (dg a)) 227 (0, 0)) ∧ w0.heap[w.heap.size + 1]? = some (.cells (numC (dg b)) 227 (0, 0)) ∧ w0.heap[w.heap.size + 1 + 1]? = some (.cells z8 227 (0, 0))) := by
    rw [hw0]; exact heap_alloc3 w _ _ _
  have hf0 : Hid (Fr w w0) := by rw [hw0]; exact (((Fr.refl w).alloc _).alloc _).alloc _
  rw [← hw0]
  clear hw0
  go_loopw [5, 6] (fun vc vi wr => ∃ i : Nat, vi = .int .i64 i ∧ vc = .int .i64 (cadd a b i : Nat) ∧ i ≤ 8 ∧ Hid (wr.heap[w.heap.size]? = some (.cells (numC (fun j => if j < i then dg (a + b) j else dg a j)) 227 (0, 0))) ∧ Hid (wr.heap[w.heap.size + 1]? = some (.cells (numC (dg b)) 227 (0, 0))) ∧ Hid (wr.heap[w.heap.size + 1 + 1]? = some (.cells z8 227 (0, 0))) ∧ Hid (Fr w wr)) (fun _ vi _ => 8 - (intOf vi).toNat)
  case atStart => exact ⟨0, rfl, by rw [cadd_zero]; rfl, by omega, by rw [Hid]; simpa using h0.out.1, h0.out.2.1, h0.out.2.2, hf0⟩
  case round =>
    obtain ⟨i, rfl, rfl, hi, hb1, hb2, hb3, hf⟩ := hrel
    rcases Nat.lt_or_ge i 8 with hlt | hge
    · have g1 : decide (i < 8) = true := decide_eq_true hlt
      have g2 : (i : Int) < 8 := by omega
      have c1 := num_cells hb1.out i hlt
      have c2 := num_cells hb2.out i hlt
      have z1 := blk_frozen hb1.out i
      rw [if_neg (Nat.lt_irrefl i)] at c1
      obtain ⟨X, hX⟩ : ∃ X, X = dg a i := ⟨_, rfl⟩
      obtain ⟨Y, hY⟩ : ∃ X, X = dg b i := ⟨_, rfl⟩
      obtain ⟨C, hC⟩ : ∃ X, X = cadd a b i := ⟨_, rfl⟩
      have hXb : X < 65536 := by rw [hX]; exact dg_lt _ _
      have hYb : Y < 65536 := by rw [hY]; exact dg_lt _ _
      have hCb : C ≤ 1 := by rw [hC]; exact cadd_le _ _ _
      have HN : Hid ((X + Y + C) / 65536 = cadd a b (i + 1) ∧ (X + Y + C) % 65536 = dg (a + b) i) := by rw [Hid, hX, hY, hC]; exact ⟨cadd_next a b i, cadd_dg a b i⟩
      rw [← hX] at c1
      rw [← hY] at c2
      rw [← hC]
      clear hX hY hC
      have wi : IntKind.i64.wrap ((i : Int) + 1) = (i : Int) + 1 := wrap_i64_in _ (by omega) (by omega)
      go_wp2_with fail
      refine wp_region_quiet_tail 9 (by kernel_rfl) (by kernel_rfl) ?_
      try simp only [List.take_succ_cons, List.take_zero, List.drop_succ_cons, List.drop_zero]
      try go_frame
      repeat (quiet_step (fail))
      refine wpQuiet_nil ?_
      intro _ hw'
      obtain ⟨q, rfl⟩ := hw'
      obtain ⟨w1, hw1⟩ : ∃ w1, w1 = wr.drewN q := ⟨_, rfl⟩
      rw [← hw1]
      have hf1 : Hid (Fr wr w1) := by rw [hw1]; exact fr_drewN _ _
      clear hw1 c1 c2 z1
      have hb1' := Lib.hid (hf1.out.blk hb1.out)
      have c1 := num_cells hb1'.out i hlt
      have z1 := blk_frozen hb1'.out i
      go_wp2_with fail
      rw [show ((X : Int) + Y + C) % 65536 = (((X + Y + C) % 65536 : Nat) : Int) by omega, show ((X : Int) + Y + C) / 65536 = (((X + Y + C) / 65536 : Nat) : Int) by omega, HN.out.1, HN.out.2]
      exact ⟨⟨i + 1, rfl, rfl, by omega, num_set hb1'.out _ hlt (by simp) (fun j _ hne => by simp [show (j < i + 1) = (j < i) by simp; omega]), blk_set_ne (hf1.out.blk hb2.out) (by simp) _, blk_set_ne (hf1.out.blk hb3.out) (by simp; omega) _, (hf.out.trans hf1.out).set (p := ⟨w.heap.size, i, none⟩) (Nat.le_refl _) _⟩, by simp only [intOf]; omega⟩
    · obtain rfl : i = 8 := by omega
      have hb1' : Hid (wr.heap[w.heap.size]? = some (.cells (numC (dg (a + b))) 227 (0, 0))) := by
        rw [Hid, hb1.out, numC_ext (g := dg (a + b)) (fun j hj => if_pos hj)]
      obtain ⟨c0, c1, c2, c3, c4, c5, c6, c7⟩ := num8 hb1'.out
      obtain ⟨y0, y1, y2, y3, y4, y5, y6, y7⟩ := zer8 hb3.out
      obtain ⟨z0, z1, z2, z3, z4, z5, z6, z7⟩ := fro8 hb3.out
      go_wp2_with fail
      exact bodyPost_ret (results_cell_row rfl _ _ (w.heap.size + 1 + 1) _ _ (0, 0) _ rfl (put8_blk hb3.out (dg (a + b))) Tryz.underlying227 rfl (by kernel_rfl)) rfl ⟨rfl, put8_fr hf.out (by omega) (dg (a + b))⟩

set_option maxHeartbeats 2000000 in
theorem r1told_calls (hi lo : Nat) (hh : hi < 9223372036854775808) (hl : lo < 18446744073709551616) (w : World) : Calls Tryz.prog 167 #[numV (dg (hi * 18446744073709551616 + lo))] w fun e w' => e = .returned (.agg #[.int .i64 (hi : Nat), .int .u64 (lo : Nat)]) ∧ Fr w w' := by
  unfold numV
  go_enter Tryz.func167, Tryz.ntmps167
  go_wp2_with fail
  obtain ⟨w0, hw0⟩ : ∃ w0, w0 = (w.alloc (.cells (numC (dg (hi * 18446744073709551616 + lo))) 227)).alloc (.cells #[.int .i64 0, .int .u64 0] 209) := ⟨_, rfl⟩
  have hb1 : Hid (w0.heap[w.heap.size]? = some (.cells (numC (dg (hi * 18446744073709551616 + lo))) 227 (0, 0))) := by rw [hw0]; exact heap_alloc2_old _ _ _
  have hb2 : Hid (w0.heap[w.heap.size + 1]? = some (.cells #[.int .i64 0, .int .u64 0] 209 (0, 0))) := by rw [hw0]; exact heap_alloc2_new _ _ _
  have hf : Hid (Fr w w0) := by rw [hw0]; exact ((Fr.refl w).alloc _).alloc _
  rw [← hw0]
  clear hw0
  have hz : hi / 65536 ^ 4 = 0 ∧ lo / 65536 ^ 4 = 0 := by simp only [Nat.reducePow]; omega
  go_loopw [3, 4, 5] (fun v3 v4 v5 wr => ∃ m : Nat, v5 = .int .i64 ((m : Int) - 1) ∧ v3 = .int .u64 (lo / 65536 ^ m : Nat) ∧ v4 = .int .u64 (hi / 65536 ^ m : Nat) ∧ m ≤ 4 ∧ wr = w0) (fun _ _ v5 _ => (intOf v5 + 1).toNat)
  case atStart => exact ⟨4, rfl, by rw [hz.2]; rfl, by rw [hz.1]; rfl, by omega, rfl⟩
  case round =>
    obtain ⟨m, rfl, rfl, rfl, hm, rfl⟩ := hrel
    cases m with
    | zero =>
      have g1 : decide ((((0 : Nat) : Int) - 1) ≥ 0) = false := by decide
      have w1 : IntKind.i64.wrap (hi : Int) = hi := wrap_i64_in _ (by omega) (by omega)
      obtain ⟨c0, c1⟩ := cells2 hb2.out
      have z0 := blk_frozen hb2.out 0
      have z1 := blk_frozen hb2.out 1
      rw [Nat.pow_zero, Nat.div_one, Nat.div_one]
      go_wp2_with fail
      exact bodyPost_ret (results_cell_row rfl _ _ (w.heap.size + 1) _ _ (0, 0) _ rfl (blk_set (blk_set hb2.out 0 _) 1 _) Tryz.underlying209 rfl (by kernel_rfl)) rfl ⟨rfl, (hf.out.set (p := ⟨w.heap.size + 1, 0, none⟩) (Nat.le_succ _) _).set (p := ⟨w.heap.size + 1, 1, none⟩) (Nat.le_succ _) _⟩
    | succ k =>
      have e0 : ((k + 1 : Nat) : Int) - 1 = (k : Int) := by omega
      have g1 : decide ((k : Int) ≥ 0) = true := decide_eq_true (by omega)
      have g2 : (0 : Int) ≤ (k : Int) := by omega
      have c1 := num_cells hb1.out k (by omega)
      have c2 := num_cells hb1.out (4 + k) (by omega)
      rw [dg_low (by omega)] at c1
      rw [dg_high hl (by omega)] at c2
      have w4 : IntKind.i64.wrap (4 + (k : Int)) = ((4 + k : Nat) : Int) := by rw [show ((4 + k : Nat) : Int) = 4 + (k : Int) by omega]; exact wrap_i64_in _ (by omega) (by omega)
      have hs1 := dg_split lo k
      have hs2 := dg_split hi k
      have hb1' : lo / 65536 ^ k ≤ lo := Nat.div_le_self _ _
      have hb2' : hi / 65536 ^ k ≤ hi := Nat.div_le_self _ _
      have hd1 := dg_lt lo k
      have hd2 := dg_lt hi k
      obtain ⟨P, hP⟩ : ∃ P, P = lo / 65536 ^ (k + 1) := ⟨_, rfl⟩
      obtain ⟨P0, hP0⟩ : ∃ P, P = lo / 65536 ^ k := ⟨_, rfl⟩
      obtain ⟨Q0, hQ0⟩ : ∃ P, P = hi / 65536 ^ k := ⟨_, rfl⟩
      obtain ⟨Q, hQ⟩ : ∃ P, P = hi / 65536 ^ (k + 1) := ⟨_, rfl⟩
      obtain ⟨X, hX⟩ : ∃ P, P = dg lo k := ⟨_, rfl⟩
      obtain ⟨Y, hY⟩ : ∃ P, P = dg hi k := ⟨_, rfl⟩
      rw [← hP, ← hX, ← hP0] at hs1
      rw [← hQ, ← hY, ← hQ0] at hs2
      rw [← hP0] at hb1'
      rw [← hQ0] at hb2'
      have HPQ : Hid (P0 = lo / 65536 ^ k ∧ Q0 = hi / 65536 ^ k) := ⟨hP0, hQ0⟩
      rw [← hX] at c1 hd1
      rw [← hY] at c2 hd2
      rw [← hP, ← hQ, e0]
      have w5 : IntKind.u64.wrap ((P : Int) * 65536) = (P : Int) * 65536 := wrap_u64_in _ (by omega) (by omega)
      have w6 : IntKind.u64.wrap ((Q : Int) * 65536) = (Q : Int) * 65536 := wrap_u64_in _ (by omega) (by omega)
      have w7 : IntKind.u64.wrap (X : Int) = (X : Int) := wrap_u64_in _ (by omega) (by omega)
      have w8 : IntKind.u64.wrap (Y : Int) = (Y : Int) := wrap_u64_in _ (by omega) (by omega)
      have w9 : IntKind.u64.wrap ((P : Int) * 65536 + X) = (P0 : Int) := by rw [show (P : Int) * 65536 + X = (P0 : Int) by omega]; exact wrap_u64_in _ (by omega) (by omega)
      have w10 : IntKind.u64.wrap ((Q : Int) * 65536 + Y) = (Q0 : Int) := by rw [show (Q : Int) * 65536 + Y = (Q0 : Int) by omega]; exact wrap_u64_in _ (by omega) (by omega)
      clear hP hQ hX hY hP0 hQ0
      go_wp2_with fail
      refine ⟨⟨k, rfl, ?_, ?_, by omega, trivial⟩, by simp only [intOf]; omega⟩
      · rw [← HPQ.out.1, show (P : Int) * 65536 + X = (P0 : Int) by omega]
      · rw [← HPQ.out.2, show (Q : Int) * 65536 + Y = (Q0 : Int) by omega]
end Go.Proofs.YthjimnmgbcckjaaGreat
namespace Go.Proofs.YthjimnmgbcckjaaGreat
set_option maxRecDepth 100000
open Go.RowKit Go.Inc Go.Run

theorem z8_num : z8 = numC (fun _ => 0) := rfl
def ofF (hi lo i j : Nat) : Nat := if j < 4 then (if j < i then dg lo j else 0) else (if j < 4 + i then dg hi (j - 4) else 0)
def ofG (hi lo i j : Nat) : Nat := if j = i then dg lo j else ofF hi lo i j
set_option maxHeartbeats 2000000 in
theorem r1of_calls (hi lo : Nat) (hh : hi < 9223372036854775808) (hl : lo < 18446744073709551616) (w : World) : Calls Tryz.prog 164 #[.agg #[.int .i64 (hi : Nat), .int .u64 (lo : Nat)]] w fun e w' => e = .returned (numV (dg (hi * 18446744073709551616 + lo))) ∧ Fr w w' := by
  have w0 : IntKind.u64.wrap (hi : Int) = hi := wrap_u64_in _ (by omega) (by omega)
  have hb0 := heap_alloc3 w (.cells #[.int .i64 (hi : Nat), .int .u64 (lo : Nat)] 209) (.cells z8 227) (.cells z8 227)
  obtain ⟨k0, k1⟩ := cells2 hb0.1
  have HB0 := Lib.hid hb0
  clear hb0
  unfold numV
  unfold z8 at k0 k1
  go_enter Tryz.func164, Tryz.ntmps164
  go_wp2_with fail
  obtain ⟨w0, hw0⟩ : ∃ w0, w0 = ((w.alloc (.cells #[.int .i64 (hi : Nat), .int .u64 (lo : Nat)] 209)).alloc (.cells #[.int .i64 0, .int .i64 0, .int .i64 0, .int .i64 0, .int .i64 0, .int .i64 0, .int .i64 0, .int .i64 0] 227)).alloc (.cells #[.int .i64 0, .int .i64 0, .int .i64 0, .int .i64 0, .int .i64 0, .int .i64 0, .int .i64 0, .int .i64 0] 227) := ⟨_, rfl⟩
  have hb2 : Hid (w0.heap[w.heap.size + 1]? = some (.cells z8 227 (0, 0))) := by rw [hw0]; exact HB0.out.2.1
  have hb3 : Hid (w0.heap[w.heap.size + 1 + 1]? = some (.cells z8 227 (0, 0))) := by rw [hw0]; exact HB0.out.2.2
  have hf : Hid (Fr w w0) := by rw [hw0]; exact (((Fr.refl w).alloc _).alloc _).alloc _
  rw [← hw0]
  clear hw0 HB0 k0 k1
  go_loopw [4, 5, 6] (fun v4 v5 v6 wr => ∃ i : Nat, v6 = .int .i64 i ∧ v4 = .int .u64 (lo / 65536 ^ i : Nat) ∧ v5 = .int .u64 (hi / 65536 ^ i : Nat) ∧ i ≤ 4 ∧ Hid (wr.heap[w.heap.size + 1]? = some (.cells z8 227 (0, 0))) ∧ Hid (wr.heap[w.heap.size + 1 + 1]? = some (.cells (numC (ofF hi lo i)) 227 (0, 0))) ∧ Hid (Fr w wr)) (fun _ _ v6 _ => 4 - (intOf v6).toNat)
  case atStart => exact ⟨0, rfl, by simp, by simp, by omega, hb2, by rw [Hid, hb3.out, z8_num]; rw [numC_ext (f := fun _ => 0) (g := ofF hi lo 0) (fun j _ => by unfold ofF; simp; omega)], hf⟩
  case round =>
    obtain ⟨i, rfl, rfl, rfl, hi4, hb2, hb3, hf⟩ := hrel
    rcases Nat.lt_or_ge i 4 with hlt | hge
    · have g1 : decide (i < 4) = true := decide_eq_true hlt
      have g2 : (i : Int) < 4 := by omega
      have c1 := num_cells hb3.out i (by omega)
      have z1 := blk_frozen hb3.out i
      have hbG : Hid ((wr.setCell ⟨w.heap.size + 1 + 1, i, none⟩ (.int .i64 (dg lo i : Nat))).heap[w.heap.size + 1 + 1]? = some (.cells (numC (ofG hi lo i)) 227 (0, 0))) := num_set hb3.out _ (by omega) (if_pos rfl) (fun j _ hne => if_neg hne)
      have c2 := num_cells hbG.out (4 + i) (by omega)
      have z2 := blk_frozen hbG.out (4 + i)
      have w4 : IntKind.i64.wrap (4 + (i : Int)) = ((4 + i : Nat) : Int) := by rw [show ((4 + i : Nat) : Int) = 4 + (i : Int) by omega]; exact wrap_i64_in _ (by omega) (by omega)
      have wi : IntKind.i64.wrap ((i : Int) + 1) = (i : Int) + 1 := wrap_i64_in _ (by omega) (by omega)
      have hb1' : lo / 65536 ^ i ≤ lo := Nat.div_le_self _ _
      have hb2' : hi / 65536 ^ i ≤ hi := Nat.div_le_self _ _
      obtain ⟨P0, hP0⟩ : ∃ P, P = lo / 65536 ^ i := ⟨_, rfl⟩
      obtain ⟨Q0, hQ0⟩ : ∃ P, P = hi / 65536 ^ i := ⟨_, rfl⟩
      have HPQ : Hid (dg lo i = P0 % 65536 ∧ dg hi i = Q0 % 65536 ∧ lo / 65536 ^ (i + 1) = P0 / 65536 ∧ hi / 65536 ^ (i + 1) = Q0 / 65536) := by
        rw [Hid, ← dg_next, ← dg_next, hP0, hQ0]; exact ⟨rfl, rfl, rfl, rfl⟩
      rw [← hP0] at hb1' ⊢
      rw [← hQ0] at hb2' ⊢
      rw [HPQ.out.1] at c2 z2 hbG
      rw [show ((P0 % 65536 : Nat) : Int) = (P0 : Int) % 65536 by omega] at c2 z2 hbG
      clear hP0 hQ0
      go_wp2_with fail
      rw [show (P0 : Int) / 65536 = ((P0 / 65536 : Nat) : Int) by omega, show (Q0 : Int) / 65536 = ((Q0 / 65536 : Nat) : Int) by omega, show (Q0 : Int) % 65536 = ((Q0 % 65536 : Nat) : Int) by omega]
      refine ⟨⟨i + 1, rfl, by rw [HPQ.out.2.2.1], by rw [HPQ.out.2.2.2], by omega, blk_set_ne (blk_set_ne hb2.out (by simp) _) (by simp) _, num_set hbG.out _ (by omega) ?_ (fun j hj hne => ?_), (hf.out.set (p := ⟨w.heap.size + 1 + 1, i, none⟩) (by show _ ≤ w.heap.size + 1 + 1; omega) _).set (p := ⟨w.heap.size + 1 + 1, 4 + i, none⟩) (by show _ ≤ w.heap.size + 1 + 1; omega) _⟩, by simp only [intOf]; omega⟩
      · unfold ofF
        rw [if_neg (by omega), if_pos (by omega), show 4 + i - 4 = i by omega]
        exact HPQ.out.2.1
      · unfold ofG ofF
        by_cases h4 : j < 4
        · rw [if_pos h4, if_pos h4]
          by_cases hji : j = i
          · rw [if_pos hji, if_pos (by omega)]
          · rw [if_neg hji]
            by_cases h5 : j < i
            · rw [if_pos h5, if_pos (by omega)]
            · rw [if_neg h5, if_neg (by omega)]
        · rw [if_neg h4, if_neg h4, if_neg (show ¬ j = i by omega)]
          by_cases h5 : j < 4 + i
          · rw [if_pos h5, if_pos (by omega)]
          · rw [if_neg h5, if_neg (by omega)]
    · obtain rfl : i = 4 := by omega
      have hb1' : Hid (wr.heap[w.heap.size + 1 + 1]? = some (.cells (numC (dg (hi * 18446744073709551616 + lo))) 227 (0, 0))) := by
        rw [Hid, hb3.out, numC_ext (g := dg (hi * 18446744073709551616 + lo)) (fun j hj => ?_)]
        unfold ofF
        split
        · rename_i h
          exact (dg_low h).symm
        · rename_i h
          have := dg_high (hi := hi) hl (show j - 4 < 4 by omega)
          rw [show 4 + (j - 4) = j by omega] at this
          exact this.symm
      obtain ⟨c0, c1, c2, c3, c4, c5, c6, c7⟩ := num8 hb1'.out
      obtain ⟨y0, y1, y2, y3, y4, y5, y6, y7⟩ := zer8 hb2.out
      obtain ⟨z0, z1, z2, z3, z4, z5, z6, z7⟩ := fro8 hb2.out
      go_wp2_with fail
      exact bodyPost_ret (results_cell_row rfl _ _ (w.heap.size + 1) _ _ (0, 0) _ rfl (put8_blk hb2.out (dg (hi * 18446744073709551616 + lo))) Tryz.underlying227 rfl (by kernel_rfl)) rfl ⟨rfl, put8_fr hf.out (by omega) (dg (hi * 18446744073709551616 + lo))⟩
theorem r1Of_calls (n : Nat) (hn : n < 9223372036854775808) (w : World) : Calls Tryz.prog 169 #[.int .i64 (n : Nat)] w fun e w' => e = .returned (.agg #[.int .i64 0, .int .u64 (n : Nat)]) ∧ Fr w w' := by
  have d1 : decide ((n : Int) < 0) = false := decide_eq_false (by omega)
  have d2 : ¬ (n : Int) < 0 := by omega
  have w1 : IntKind.u64.wrap (n : Int) = n := wrap_u64_in _ (by omega) (by omega)
  go_enter Tryz.func169, Tryz.ntmps169
  go_wp2_with fail
  exact bodyPost_ret (results_cell_row rfl _ _ w.heap.size _ _ (0, 0) _ rfl (heap_alloc_new w _) Tryz.underlying209 rfl (by kernel_rfl)) rfl ⟨rfl, (Fr.refl w).alloc _⟩
end Go.Proofs.YthjimnmgbcckjaaGreat
