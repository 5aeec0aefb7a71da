/- Parts of this proof, one behind the other: Rh3, Rh4, Rh5, Rh6, Rh7, Ri1. -/
import Derived.StillTail
import Derived.IntWalk
import Derived.WalkMore
import Derived.Deep.RegionHeld3
import Derived.Test.YthjimnmgbcckjaaGreatQV1
namespace Go.Proofs.YthjimnmgbcckjaaGreat
set_option maxRecDepth 100000
open Go.RowKit Go.Inc Go.Run

def rowF (N t j : Nat) : Nat := if j < t then dg N j else 0
theorem times_next (a b i : Nat) : a % 65536 ^ i * b + 65536 ^ i * (dg a i * b) = a % 65536 ^ (i + 1) * b := by
  rw [Nat.mod_pow_succ, Nat.add_mul, Nat.mul_assoc]
  rfl
theorem heap_alloc4 (w : World) (x y z u : Obj) : ((((w.alloc x).alloc y).alloc z).alloc u).heap[w.heap.size]? = some x ∧ ((((w.alloc x).alloc y).alloc z).alloc u).heap[w.heap.size + 1]? = some y ∧ ((((w.alloc x).alloc y).alloc z).alloc u).heap[w.heap.size + 1 + 1]? = some z ∧ ((((w.alloc x).alloc y).alloc z).alloc u).heap[w.heap.size + 1 + 1 + 1]? = some u := by
  obtain ⟨h1, h2, h3⟩ := heap_alloc3 w x y z
  have h4 := heap_alloc_new (((w.alloc x).alloc y).alloc z) u
  rw [World.size_alloc, World.size_alloc, World.size_alloc] at h4
  exact ⟨((Fr.refl _).alloc _).blk h1, ((Fr.refl _).alloc _).blk h2, ((Fr.refl _).alloc _).blk h3, h4⟩
set_option maxHeartbeats 4000000 in
theorem r1times_calls (a b : Nat) (ha : a < 65536 ^ 8) (w : World) : Calls Tryz.prog 170 #[numV (dg a), numV (dg b)] w fun e w' => e = .returned (numV (dg (a * b))) ∧ Fr w w' := by
  have HA := Lib.hid ha
  clear ha
  have HB0 := Lib.hid (heap_alloc4 w (.cells (numC (dg a)) 227) (.cells (numC (dg b)) 227) (.cells z8 227) (.cells z8 227))
  unfold numV
  go_enter Tryz.func170, Tryz.ntmps170
  go_wp2_with fail
  obtain ⟨w0, hw0⟩ : ∃ w0, w0 = (((w.alloc (.cells (numC (dg a)) 227)).alloc (.cells (numC (dg b)) 227)).alloc (.cells #[.int .i64 0, .int .i64 0, .int .i64 0, .int .i64 0, .int .i64 0, .int .i64 0, .int .i64 0, .int .i64 0] 227)).alloc (.cells #[.int .i64 0, .int .i64 0, .int .i64 0, .int .i64 0, .int .i64 0, .int .i64 0, .int .i64 0, .int .i64 0] 227) := ⟨_, rfl⟩
  have hb : Hid (w0.heap[w.heap.size]? = some (.cells (numC (dg a)) 227 (0, 0)) ∧ w0.heap[w.heap.size + 1]? = some (.cells (numC (dg b)) 227 (0, 0)) ∧ w0.heap[w.heap.size + 1 + 1]? = some (.cells z8 227 (0, 0)) ∧ w0.heap[w.heap.size + 1 + 1 + 1]? = some (.cells z8 227 (0, 0))) := by rw [hw0]; exact HB0.out
  have hf : Hid (Fr w w0) := by rw [hw0]; exact ((((Fr.refl w).alloc _).alloc _).alloc _).alloc _
  rw [← hw0]
  clear hw0 HB0
  go_loopw [6] (fun v6 wr => ∃ i : Nat, v6 = .int .i64 i ∧ i ≤ 8 ∧ Hid (wr.heap[w.heap.size]? = some (.cells (numC (dg a)) 227 (0, 0)) ∧ wr.heap[w.heap.size + 1]? = some (.cells (numC (dg b)) 227 (0, 0)) ∧ wr.heap[w.heap.size + 1 + 1]? = some (.cells z8 227 (0, 0)) ∧ wr.heap[w.heap.size + 1 + 1 + 1]? = some (.cells (numC (dg (a % 65536 ^ i * b))) 227 (0, 0))) ∧ Hid (Fr w wr)) (fun v6 _ => 8 - (intOf v6).toNat)
  case atStart => exact ⟨0, rfl, by omega, ⟨hb.out.1, hb.out.2.1, hb.out.2.2.1, by rw [hb.out.2.2.2, z8_num, numC_ext (f := fun _ => 0) (g := dg (a % 65536 ^ 0 * b)) (fun j _ => by rw [Nat.pow_zero, Nat.mod_one, Nat.zero_mul]; unfold dg; simp)]⟩, hf⟩
  case round =>
    clear hb hf
    obtain ⟨i, rfl, hi8, hb, hf⟩ := hrel
    obtain ⟨wo, hwo⟩ : ∃ wo, wo = wr := ⟨_, rfl⟩
    subst hwo
    rcases Nat.lt_or_ge i 8 with hlt | hge
    · have g1 : decide (i < 8) = true := decide_eq_true hlt
      have g2 : (i : Int) < 8 := by omega
      obtain ⟨x, hx⟩ : ∃ x, x = dg a i := ⟨_, rfl⟩
      have HXX := Lib.hid hx
      have hx16 : x < 65536 := by rw [hx]; exact dg_lt _ _
      have hb7 := Lib.hid (heap_alloc_new wo (.cells z8 227))
      have hf7 := Lib.hid ((Fr.refl wo).alloc (.cells z8 227))
      clear hx
      go_wp2_with fail
      obtain ⟨w7, hw7⟩ : ∃ w7, w7 = wo.alloc (.cells #[.int .i64 0, .int .i64 0, .int .i64 0, .int .i64 0, .int .i64 0, .int .i64 0, .int .i64 0, .int .i64 0] 227) := ⟨_, rfl⟩
      have hb7' : Hid (w7.heap[wo.heap.size]? = some (.cells z8 227 (0, 0))) := by rw [hw7]; exact hb7.out
      have hf7' : Hid (Fr wo w7) := by rw [hw7]; exact hf7.out
      rw [← hw7]
      clear hw7 hb7 hf7
      go_loopw [8, 9] (fun v8 v9 wr => ∃ k : Nat, v9 = .int .i64 k ∧ v8 = .int .i64 (cmul x b k : Nat) ∧ i + k ≤ 8 ∧ Hid (wr.heap[wo.heap.size]? = some (.cells (numC (rowF (65536 ^ i * (x * b)) (i + k))) 227 (0, 0))) ∧ Hid (Fr wo wr)) (fun _ v9 _ => 8 - (intOf v9).toNat)
      case atStart => exact ⟨0, rfl, by rw [cmul_zero]; rfl, by omega, by
        rw [Hid, hb7'.out, z8_num]
        rw [numC_ext (f := fun _ => 0) (fun j _ => ?_)]
        unfold rowF
        split
        · rw [dg_shift_low _ (by omega)]
        · rfl, hf7'⟩
      case round =>
        obtain ⟨k, rfl, rfl, hik, hb7, hf7⟩ := hrel
        rcases Nat.lt_or_ge (i + k) 8 with hlt2 | hge2
        · have wik : IntKind.i64.wrap ((i : Int) + (k : Int)) = ((i + k : Nat) : Int) := by rw [show ((i + k : Nat) : Int) = (i : Int) + (k : Int) by omega]; exact wrap_i64_in _ (by omega) (by omega)
          have g3 : decide (((i + k : Nat) : Int) < 8) = true := decide_eq_true (by omega)
          have g4 : ((i + k : Nat) : Int) < 8 := by omega
          have g5 : (i : Int) + (k : Int) < 8 := by omega
          have g6 : (k : Int) < 8 := by omega
          have g7 : decide (k < 8) = true := decide_eq_true (by omega)
          have HB := Lib.hid hb.out
          have c1 := num_cells (hf7.out.blk hb.out.1) i hlt
          have c2 := num_cells (hf7.out.blk hb.out.2.1) k (by omega)
          rw [← HXX.out] at c1
          obtain ⟨Y, hY⟩ : ∃ Y, Y = dg b k := ⟨_, rfl⟩
          obtain ⟨C, hC⟩ : ∃ Y, Y = cmul x b k := ⟨_, rfl⟩
          have hYb : Y < 65536 := by rw [hY]; exact dg_lt _ _
          have hCb : C < 65536 := by rw [hC]; exact cmul_le hx16 _ _
          have HN : Hid ((x * Y + C) / 65536 = cmul x b (k + 1) ∧ (x * Y + C) % 65536 = dg (x * b) k) := by rw [Hid, hY, hC]; exact ⟨cmul_next x b k, cmul_dg x b k⟩
          rw [← hY] at c2
          rw [← hC]
          clear hY hC
          have hm : x * Y ≤ 65535 * 65535 := Nat.mul_le_mul (by omega) (by omega)
          obtain ⟨M, hM⟩ : ∃ M, M = x * Y := ⟨_, rfl⟩
          rw [← hM] at hm HN
          have w1 : IntKind.i64.wrap ((x : Int) * (Y : Int)) = (M : Int) := by rw [show (x : Int) * (Y : Int) = (M : Int) by rw [hM]; exact (Int.natCast_mul x Y).symm]; exact wrap_i64_in _ (by omega) (by omega)
          have w2 : IntKind.i64.wrap ((M : Int) + (C : Int)) = (M : Int) + C := wrap_i64_in _ (by omega) (by omega)
          have w3 : IntKind.i64.wrap ((k : Int) + 1) = (k : Int) + 1 := wrap_i64_in _ (by omega) (by omega)
          clear hM
          go_wp2_with fail
          refine wp_region_quiet_tail 9 (by kernel_rfl) (by kernel_rfl) ?_
          try simp only [List.take_succ_cons, List.take_zero, List.drop_succ_cons, List.drop_zero]
          try go_frame
          repeat (quiet_step (fail))
          refine wpQuiet_nil ?_
          intro _ hw'
          obtain ⟨q, rfl⟩ := hw'
          obtain ⟨w1, hw1⟩ : ∃ w1, w1 = wr.drewN q := ⟨_, rfl⟩
          rw [← hw1]
          have hf1 : Hid (Fr wr w1) := by rw [hw1]; exact fr_drewN _ _
          clear hw1 c1 c2
          have hb1' := Lib.hid (hf1.out.blk hb7.out)
          have c1 := num_cells hb1'.out (i + k) hlt2
          have z1 := blk_frozen hb1'.out (i + k)
          go_wp2_with fail
          rw [show ((M : Int) + C) % 65536 = (((M + C) % 65536 : Nat) : Int) by omega, show ((M : Int) + C) / 65536 = (((M + C) / 65536 : Nat) : Int) by omega, HN.out.1, HN.out.2]
          exact ⟨⟨k + 1, rfl, rfl, by omega, num_set hb1'.out _ hlt2 (by unfold rowF; rw [if_pos (by omega), dg_shift]) (fun j _ hne => by unfold rowF; simp [show (j < i + (k + 1)) = (j < i + k) by simp; omega]), (hf7.out.trans hf1.out).set (p := ⟨wo.heap.size, i + k, none⟩) (Nat.le_refl _) _⟩, by simp only [intOf]; omega⟩
        · obtain hik8 : i + k = 8 := by omega
          have wik : IntKind.i64.wrap ((i : Int) + (k : Int)) = (i : Int) + (k : Int) := wrap_i64_in _ (by omega) (by omega)
          have g3 : decide ((i : Int) + (k : Int) < 8) = false := decide_eq_false (by omega)
          have g5 : ¬ (i : Int) + (k : Int) < 8 := by omega
          have HB7 : Hid (wr.heap[wo.heap.size]? = some (.cells (numC (dg (65536 ^ i * (x * b)))) 227 (0, 0))) := by
            rw [Hid, hb7.out, numC_ext (f := rowF (65536 ^ i * (x * b)) (i + k)) (g := dg (65536 ^ i * (x * b))) (fun j hj => if_pos (by omega))]
          obtain ⟨c0, c1, c2, c3, c4, c5, c6, c7⟩ := num8 HB7.out
          obtain ⟨y0, y1, y2, y3, y4, y5, y6, y7⟩ := num8 (hf7.out.blk hb.out.2.2.2)
          have HP := Lib.hid (fun w => r1plus_calls (a % 65536 ^ i * b) (65536 ^ i * (x * b)) w)
          unfold numV numC at HP
          go_wp2_with fail
          refine (HP.out _).mono ?_
          rintro e wq ⟨rfl, hq⟩
          have hf9 : Hid (Fr wo wq) := hf7.out.trans hq
          obtain ⟨y0, y1, y2, y3, y4, y5, y6, y7⟩ := num8 (hf9.out.blk hb.out.2.2.2)
          obtain ⟨z0, z1, z2, z3, z4, z5, z6, z7⟩ := fro8 (hf9.out.blk hb.out.2.2.2)
          have w3 : IntKind.i64.wrap ((i : Int) + 1) = (i : Int) + 1 := wrap_i64_in _ (by omega) (by omega)
          clear hq
          go_wp2_with fail
          rw [HXX.out, times_next] 
          exact ⟨⟨i + 1, rfl, by omega, ⟨put8_far (hf9.out.blk hb.out.1) (by omega) (dg (a % 65536 ^ (i + 1) * b)), put8_far (hf9.out.blk hb.out.2.1) (by omega) (dg (a % 65536 ^ (i + 1) * b)), put8_far (hf9.out.blk hb.out.2.2.1) (by omega) (dg (a % 65536 ^ (i + 1) * b)), put8_blk (hf9.out.blk hb.out.2.2.2) (dg (a % 65536 ^ (i + 1) * b))⟩, put8_fr (hf.out.trans hf9.out) (by omega) (dg (a % 65536 ^ (i + 1) * b))⟩, by simp only [intOf]; omega⟩
    · obtain rfl : i = 8 := by omega
      rw [Nat.mod_eq_of_lt HA.out] at hb
      obtain ⟨c0, c1, c2, c3, c4, c5, c6, c7⟩ := num8 hb.out.2.2.2
      obtain ⟨y0, y1, y2, y3, y4, y5, y6, y7⟩ := zer8 hb.out.2.2.1
      obtain ⟨z0, z1, z2, z3, z4, z5, z6, z7⟩ := fro8 hb.out.2.2.1
      go_wp2_with fail
      exact bodyPost_ret (results_cell_row rfl _ _ (w.heap.size + 1 + 1) _ _ (0, 0) _ rfl (put8_blk hb.out.2.2.1 (dg (a * b))) Tryz.underlying227 rfl (by kernel_rfl)) rfl ⟨rfl, put8_fr hf.out (by omega) (dg (a * b))⟩
end Go.Proofs.YthjimnmgbcckjaaGreat
namespace Go.Proofs.YthjimnmgbcckjaaGreat
set_option maxRecDepth 100000
open Go.RowKit Go.Inc Go.Run

theorem dg_bigV (N : Nat) : N / 18446744073709551616 * 18446744073709551616 + N % 18446744073709551616 = N := by omega
set_option maxHeartbeats 2000000 in
theorem r1Times_calls (a b : Nat) (ha : a < 9223372036854775808) (hb : b < 18446744073709551616) (w : World) : Calls Tryz.prog 150 #[.int .i64 (a : Nat), .int .u64 (b : Nat)] w fun e w' => e = .returned (bigV (a * b)) ∧ Fr w w' := by
  have HO := Lib.hid (fun w => r1Of_calls a ha w)
  have H1 := Lib.hid (fun w => r1of_calls 0 a (by decide) (by omega) w)
  have H2 := Lib.hid (fun w => r1of_calls 0 b (by decide) hb w)
  have HT := Lib.hid (fun w => r1times_calls a b (Nat.lt_of_lt_of_le ha (by decide)) w)
  have hab : a * b ≤ 9223372036854775807 * 18446744073709551615 := Nat.mul_le_mul (by omega) (by omega)
  have HD := Lib.hid (fun w => r1told_calls (a * b / 18446744073709551616) (a * b % 18446744073709551616) (by omega) (by omega) w)
  rw [dg_bigV] at HD
  rw [Nat.zero_mul, Nat.zero_add] at H1 H2
  unfold numV numC at H1 H2 HT HD
  have d1 : decide ((a : Int) < 0) = false := decide_eq_false (by omega)
  have d2 : ¬ (a : Int) < 0 := by omega
  have hb4 := Lib.hid (heap_alloc_new w (.cells #[.int .i64 0, .int .u64 0] 209))
  have hf4 := Lib.hid ((Fr.refl w).alloc (.cells #[.int .i64 0, .int .u64 0] 209))
  clear hab
  go_enter Tryz.func150, Tryz.ntmps150
  go_wp2_with fail
  refine (HO.out _).mono ?_
  rintro e w1 ⟨rfl, q1⟩
  go_wp2_with fail
  refine (H1.out _).mono ?_
  rintro e w2 ⟨rfl, q2⟩
  go_wp2_with fail
  have hf5 : Hid (Fr w w2) := (hf4.out.trans q1).trans q2
  have hb5 : Hid (w2.heap[w.heap.size]? = some (.cells #[.int .i64 0, .int .u64 0] 209 (0, 0))) := q2.blk (q1.blk hb4.out)
  clear q1 q2
  refine (H2.out _).mono ?_
  rintro e w3 ⟨rfl, q3⟩
  have hb6 := q3.blk (heap_alloc_new w2 (.cells (numC (dg a)) 227))
  have hb7 := ((Fr.refl w3).alloc (.cells (numC (dg b)) 227)).blk hb6
  have hb8 := heap_alloc_new w3 (.cells (numC (dg b)) 227)
  obtain ⟨c0, c1, c2, c3, c4, c5, c6, c7⟩ := num8 hb7
  obtain ⟨y0, y1, y2, y3, y4, y5, y6, y7⟩ := num8 hb8
  have hf6 : Hid (Fr w2 (w3.alloc (.cells (numC (dg b)) 227))) := (((Fr.refl w2).alloc _).trans q3).alloc _
  unfold numC at c0 c1 c2 c3 c4 c5 c6 c7 y0 y1 y2 y3 y4 y5 y6 y7 hf6
  clear hb6 hb7 hb8 q3
  go_wp2_with fail
  refine (HT.out _).mono ?_
  rintro e w4 ⟨rfl, q4⟩
  go_wp2_with fail
  refine (HD.out _).mono ?_
  rintro e w5 ⟨rfl, q5⟩
  have hf9 : Hid (Fr w2 w5) := (hf6.out.trans q4).trans q5
  have hb9 : Hid (w5.heap[w.heap.size]? = some (.cells #[.int .i64 0, .int .u64 0] 209 (0, 0))) := hf9.out.blk hb5.out
  obtain ⟨k0, k1⟩ := cells2 hb9.out
  have z0 := blk_frozen hb9.out 0
  have z1 := blk_frozen hb9.out 1
  clear q4 q5 c0 c1 c2 c3 c4 c5 c6 c7 y0 y1 y2 y3 y4 y5 y6 y7
  go_wp2_with fail
  exact bodyPost_ret (results_cell_row rfl _ _ w.heap.size _ _ (0, 0) _ rfl (blk_set (blk_set hb9.out 0 _) 1 _) Tryz.underlying209 rfl (by kernel_rfl)) rfl ⟨rfl, ((hf5.out.trans hf9.out).set (p := ⟨w.heap.size, 0, none⟩) (Nat.le_refl _) _).set (p := ⟨w.heap.size, 1, none⟩) (Nat.le_refl _) _⟩
end Go.Proofs.YthjimnmgbcckjaaGreat
namespace Go.Proofs.YthjimnmgbcckjaaGreat
set_option maxRecDepth 100000
open Go.RowKit Go.Inc Go.Run

theorem r1below_calls (N : Nat) (hN : N < 170141183460469231731687303715884105728) (w : World) : Calls Tryz.prog 165 #[numV (dg N)] w fun e w' => e = .returned (.bool false) ∧ Fr w w' := by
  have h7 : dg N 7 < 32768 := by
    unfold dg
    simp only [Nat.reducePow]
    omega
  have d1 : decide ((dg N 7 : Int) ≥ 32768) = false := decide_eq_false (by omega)
  have d2 : decide (32768 ≤ dg N 7) = false := decide_eq_false (by omega)
  have d3 : ¬ (32768 : Int) ≤ (dg N 7 : Int) := by omega
  have hb := heap_alloc_new w (.cells (numC (dg N)) 227)
  have c7 := num_cells hb 7 (by decide)
  unfold numV
  clear hb
  go_enter Tryz.func165, Tryz.ntmps165
  go_wp2_with fail
  go_ret
  exact ⟨by simp, (Fr.refl w).alloc _⟩

set_option maxHeartbeats 4000000 in
theorem r1Add_raw (ah al bh bl H L : Nat) (h1 : ah < 9223372036854775808) (h2 : al < 18446744073709551616) (h3 : bh < 9223372036854775808) (h4 : bl < 18446744073709551616) (hL : L < 18446744073709551616) (hH : H < 9223372036854775808) (hs : ah * 18446744073709551616 + al + (bh * 18446744073709551616 + bl) = H * 18446744073709551616 + L) (w : World) :
    Calls Tryz.prog 151 #[.agg #[.int .i64 (ah : Nat), .int .u64 (al : Nat)], .agg #[.int .i64 (bh : Nat), .int .u64 (bl : Nat)]] w fun e w' => e = .returned (.agg #[.int .i64 (H : Nat), .int .u64 (L : Nat)]) ∧ Fr w w' := by
  have HOA := Lib.hid (fun w => r1of_calls ah al h1 h2 w)
  have HOB := Lib.hid (fun w => r1of_calls bh bl h3 h4 w)
  have HP := Lib.hid (fun w => r1plus_calls (ah * 18446744073709551616 + al) (bh * 18446744073709551616 + bl) w)
  have HD := Lib.hid (fun w => r1told_calls H L hH hL w)
  rw [hs] at HP
  clear hs h1 h2 h3 h4 hL hH
  obtain ⟨h1, h2, h3⟩ := heap_alloc3 w (.cells #[.int .i64 (ah : Nat), .int .u64 (al : Nat)] 209) (.cells #[.int .i64 (bh : Nat), .int .u64 (bl : Nat)] 209) (.cells #[.int .i64 0, .int .u64 0] 209)
  have hF0 := Lib.hid ((((Fr.refl w).alloc (.cells #[.int .i64 (ah : Nat), .int .u64 (al : Nat)] 209)).alloc (.cells #[.int .i64 (bh : Nat), .int .u64 (bl : Nat)] 209)).alloc (.cells #[.int .i64 0, .int .u64 0] 209))
  have HH := Lib.hid (And.intro h1 (And.intro h2 h3))
  clear h1 h2 h3
  go_enter Tryz.func151, Tryz.ntmps151
  go_wp2_with fail
  obtain ⟨w0, hw0⟩ : ∃ w0, w0 = ((w.alloc (.cells #[.int .i64 (ah : Nat), .int .u64 (al : Nat)] 209)).alloc (.cells #[.int .i64 (bh : Nat), .int .u64 (bl : Nat)] 209)).alloc (.cells #[.int .i64 0, .int .u64 0] 209) := ⟨_, rfl⟩
  have hH : Hid (w0.heap[w.heap.size]? = some (.cells #[.int .i64 (ah : Nat), .int .u64 (al : Nat)] 209 (0, 0)) ∧ w0.heap[w.heap.size + 1]? = some (.cells #[.int .i64 (bh : Nat), .int .u64 (bl : Nat)] 209 (0, 0)) ∧ w0.heap[w.heap.size + 1 + 1]? = some (.cells #[.int .i64 0, .int .u64 0] 209 (0, 0))) := by rw [hw0]; exact HH.out
  have hF : Hid (Fr w w0) := by rw [hw0]; exact hF0.out
  rw [← hw0]
  clear hw0 HH hF0
  have HPB : Hid (∀ w', Mv (one1 (w.heap.size + 1 + 1)) w0 w' → (w'.cell? ⟨w.heap.size, 0, none⟩ = some (.int .i64 (ah : Nat)) ∧ w'.cell? ⟨w.heap.size, 1, none⟩ = some (.int .u64 (al : Nat))) ∧ (w'.cell? ⟨w.heap.size + 1, 0, none⟩ = some (.int .i64 (bh : Nat)) ∧ w'.cell? ⟨w.heap.size + 1, 1, none⟩ = some (.int .u64 (bl : Nat)))) := fun w' hf => ⟨cells2 (hf.blk hH.out.1 (fun h => by have : w.heap.size = w.heap.size + 1 + 1 := h; omega)), cells2 (hf.blk hH.out.2.1 (fun h => by have : w.heap.size + 1 = w.heap.size + 1 + 1 := h; omega))⟩
  obtain ⟨⟨a1, a2⟩, b1, b2⟩ := HPB.out w0 (Mv.refl _ _)
  go_region_held3 (fun w' => (w'.cell? ⟨w.heap.size, 0, none⟩ = some (.int .i64 (ah : Nat)) ∧ w'.cell? ⟨w.heap.size, 1, none⟩ = some (.int .u64 (al : Nat))) ∧ (w'.cell? ⟨w.heap.size + 1, 0, none⟩ = some (.int .i64 (bh : Nat)) ∧ w'.cell? ⟨w.heap.size + 1, 1, none⟩ = some (.int .u64 (bl : Nat))))
    (first
      | exact HPB.out _ (Mv.of_fr (Fr.refl _).drew)
      | exact HPB.out _ (mv_set1 (mv_set1 (Mv.of_fr hfd)))
      | exact HPB.out _ (Mv.of_fr hfd)
      | exact HPB.out _ (Mv.of_fr hfc)
      | exact HPB.out _ (Mv.of_fr hfb)
      | exact HPB.out _ (Mv.of_fr hfa))
    (first
      | (go_at_call 167; refine (HD.out _).mono ?_; rintro e wd ⟨rfl, qd⟩; have hfd : Fr w0 wd := hfc.trans qd; have hbe := hfd.blk hH.out.2.2; have z0 := blk_frozen hbe 0; have z1 := blk_frozen hbe 1; obtain ⟨z2, z3⟩ := cells2 hbe)
      | (go_at_call 168; refine (HP.out _).mono ?_; rintro e wc ⟨rfl, qc⟩; have hfc : Fr w0 wc := hfb.trans qc)
      | (go_at_call 164; first
          | (have _h := hfa; refine (HOB.out _).mono ?_; rintro e wb ⟨rfl, qb⟩; have hfb : Fr w0 wb := hfa.trans qb)
          | (refine (HOA.out _).mono ?_; rintro e wa ⟨rfl, qa⟩; have hfa : Fr w0 wa := ((Fr.refl w0).drew).trans qa)))
  go_wp2_with fail
  exact bodyPost_ret (results_cell_row rfl _ _ (w.heap.size + 1 + 1) _ _ (0, 0) _ rfl (blk_set (blk_set hbe 0 _) 1 _) Tryz.underlying209 rfl (by kernel_rfl)) rfl ⟨rfl, ((hF.out.trans hfd).set (p := ⟨w.heap.size + 1 + 1, 0, none⟩) (by show _ ≤ w.heap.size + 1 + 1; omega) _).set (p := ⟨w.heap.size + 1 + 1, 1, none⟩) (by show _ ≤ w.heap.size + 1 + 1; omega) _⟩
theorem r1Add_calls (a b : Nat) (hab : a + b < 170141183460469231731687303715884105728) (w : World) : Calls Tryz.prog 151 #[bigV a, bigV b] w fun e w' => e = .returned (bigV (a + b)) ∧ Fr w w' :=
  r1Add_raw _ _ _ _ _ _ (by omega) (by omega) (by omega) (by omega) (by omega) (by omega) (by omega) w
end Go.Proofs.YthjimnmgbcckjaaGreat
namespace Go.Run
theorem bump0 (Q t m : Nat) (ht : t < 16) : dg (Q * 2 ^ (t + 1) + 2 ^ t) m = if m = 0 then dg (Q * 2 ^ (t + 1)) 0 + 2 ^ t else dg (Q * 2 ^ (t + 1)) m := by
  have h1 : (Q * 2 ^ (t + 1) + 2 ^ t) % 65536 = Q * 2 ^ (t + 1) % 65536 + 2 ^ t ∧ (Q * 2 ^ (t + 1) + 2 ^ t) / 65536 = Q * 2 ^ (t + 1) / 65536 := by
    obtain rfl | rfl | rfl | rfl | rfl | rfl | rfl | rfl | rfl | rfl | rfl | rfl | rfl | rfl | rfl | rfl : t = 0 ∨ t = 1 ∨ t = 2 ∨ t = 3 ∨ t = 4 ∨ t = 5 ∨ t = 6 ∨ t = 7 ∨ t = 8 ∨ t = 9 ∨ t = 10 ∨ t = 11 ∨ t = 12 ∨ t = 13 ∨ t = 14 ∨ t = 15 := by omega
    all_goals (simp only [Nat.reducePow, Nat.reduceAdd]; omega)
  split
  · rename_i h
    subst h
    unfold dg
    rw [Nat.pow_zero, Nat.div_one, Nat.div_one]
    exact h1.1
  · rename_i h
    obtain ⟨k, rfl⟩ : ∃ k, m = 1 + k := ⟨m - 1, by omega⟩
    unfold dg
    rw [show 65536 ^ (1 + k) = 65536 * 65536 ^ k by rw [Nat.pow_add, Nat.pow_one], ← Nat.div_div_eq_div_mul, h1.2, Nat.div_div_eq_div_mul]
theorem bump (Q i t j : Nat) (ht : t < 16) : dg (65536 ^ i * (Q * 2 ^ (t + 1) + 2 ^ t)) j = if j = i then dg (65536 ^ i * (Q * 2 ^ (t + 1))) i + 2 ^ t else dg (65536 ^ i * (Q * 2 ^ (t + 1))) j := by
  rcases Nat.lt_or_ge j i with h | h
  · rw [dg_shift_low _ h, dg_shift_low _ h, if_neg (by omega)]
  · obtain ⟨m, rfl⟩ : ∃ m, j = i + m := ⟨j - i, by omega⟩
    rw [dg_shift, bump0 Q t m ht]
    have e := dg_shift (Q * 2 ^ (t + 1)) i 0
    rw [dg_shift]
    by_cases hm : m = 0
    · rw [if_pos hm, if_pos (by omega), ← e]; rfl
    · rw [if_neg hm, if_neg (by omega)]
theorem half (N s : Nat) : N / 2 ^ s = 2 * (N / 2 ^ (s + 1)) + N / 2 ^ s % 2 := by
  rw [Nat.pow_succ, ← Nat.div_div_eq_div_mul]
  omega
theorem div_step (P b d : Nat) (hd : 0 < d) (hb : b < 2) :
    (2 * P + b) / d = 2 * (P / d) + (if d ≤ 2 * (P % d) + b then 1 else 0) ∧ (2 * P + b) % d = if d ≤ 2 * (P % d) + b then 2 * (P % d) + b - d else 2 * (P % d) + b := by
  have h1 := Nat.div_add_mod P d
  have h2 := Nat.mod_lt P hd
  obtain ⟨q, hq⟩ : ∃ q, q = P / d := ⟨_, rfl⟩
  obtain ⟨r, hr⟩ : ∃ r, r = P % d := ⟨_, rfl⟩
  rw [← hq, ← hr] at h1 ⊢
  rw [← hr] at h2
  have e : 2 * P + b = d * (2 * q) + (2 * r + b) := by rw [← h1, Nat.mul_add, Nat.mul_left_comm]; omega
  rw [e, Nat.mul_add_div hd, Nat.mul_add_mod]
  split
  · rename_i h
    have h3 : 2 * r + b = d * 1 + (2 * r + b - d) := by omega
    rw [h3, Nat.mul_add_div hd, Nat.mul_add_mod, Nat.div_eq_of_lt (by omega), Nat.mod_eq_of_lt (by omega)]
    exact ⟨by omega, by omega⟩
  · rename_i h
    rw [Nat.div_eq_of_lt (by omega), Nat.mod_eq_of_lt (by omega)]
    exact ⟨rfl, rfl⟩
end Go.Run
namespace Go.Proofs.YthjimnmgbcckjaaGreat
set_option maxRecDepth 100000
open Go.RowKit Go.Inc Go.Run

theorem bit_dg (N i t : Nat) (ht : t < 16) : dg N i / 2 ^ t % 2 = N / 2 ^ (16 * i + t) % 2 := by
  unfold dg
  rw [Nat.pow_add, ← Nat.div_div_eq_div_mul, show 2 ^ (16 * i) = 65536 ^ i by rw [Nat.pow_mul]]
  generalize N / 65536 ^ i = X
  obtain rfl | rfl | rfl | rfl | rfl | rfl | rfl | rfl | rfl | rfl | rfl | rfl | rfl | rfl | rfl | rfl : t = 0 ∨ t = 1 ∨ t = 2 ∨ t = 3 ∨ t = 4 ∨ t = 5 ∨ t = 6 ∨ t = 7 ∨ t = 8 ∨ t = 9 ∨ t = 10 ∨ t = 11 ∨ t = 12 ∨ t = 13 ∨ t = 14 ∨ t = 15 := by omega
  all_goals (simp only [Nat.reducePow]; omega)
theorem half_pow (t : Nat) : 2 ^ (t + 1) / 2 = 2 ^ t := by rw [Nat.pow_succ]; omega
theorem pow16_lt {t : Nat} (h : t < 16) : 1 ≤ 2 ^ t ∧ 2 ^ t ≤ 32768 := by
  have h1 := Nat.two_pow_pos t
  have h2 : 2 ^ t ≤ 2 ^ 15 := Nat.pow_le_pow_right (by decide) (by omega)
  exact ⟨h1, h2⟩
/-- A digit's place of the quotient. -/
theorem div_bump (N d i t : Nat) (hd : 0 < d) (ht : t < 16) :
    N / 2 ^ (16 * i + t) % d = (if d ≤ 2 * (N / 2 ^ (16 * i + (t + 1)) % d) + dg N i / 2 ^ t % 2 then 2 * (N / 2 ^ (16 * i + (t + 1)) % d) + dg N i / 2 ^ t % 2 - d else 2 * (N / 2 ^ (16 * i + (t + 1)) % d) + dg N i / 2 ^ t % 2) ∧
    (∀ j, dg (N / 2 ^ (16 * i + t) / d * 2 ^ (16 * i + t)) j = if d ≤ 2 * (N / 2 ^ (16 * i + (t + 1)) % d) + dg N i / 2 ^ t % 2 ∧ j = i then dg (N / 2 ^ (16 * i + (t + 1)) / d * 2 ^ (16 * i + (t + 1))) i + 2 ^ t else dg (N / 2 ^ (16 * i + (t + 1)) / d * 2 ^ (16 * i + (t + 1))) j) ∧
    dg (N / 2 ^ (16 * i + (t + 1)) / d * 2 ^ (16 * i + (t + 1))) i + 2 ^ t < 4294967296 := by
  rw [bit_dg N i t ht]
  have hh := half N (16 * i + t)
  rw [show 16 * i + t + 1 = 16 * i + (t + 1) by omega] at hh
  obtain ⟨P, hP⟩ : ∃ P, P = N / 2 ^ (16 * i + (t + 1)) := ⟨_, rfl⟩
  obtain ⟨b, hb⟩ : ∃ b, b = N / 2 ^ (16 * i + t) % 2 := ⟨_, rfl⟩
  rw [← hP, ← hb] at hh ⊢
  have hb2 : b < 2 := by omega
  rw [hh]
  obtain ⟨s1, s2⟩ := div_step P b d hd hb2
  rw [s1, s2]
  have e16 : ∀ t, 2 ^ (16 * i + t) = 65536 ^ i * 2 ^ t := fun t => by rw [Nat.pow_add, Nat.pow_mul]
  refine ⟨rfl, fun j => ?_, ?_⟩
  · by_cases hc : d ≤ 2 * (P % d) + b
    · rw [if_pos hc, e16, e16]
      rw [show (2 * (P / d) + 1) * (65536 ^ i * 2 ^ t) = 65536 ^ i * (P / d * 2 ^ (t + 1) + 2 ^ t) by rw [Nat.pow_succ]; grind]
      rw [show P / d * (65536 ^ i * 2 ^ (t + 1)) = 65536 ^ i * (P / d * 2 ^ (t + 1)) by grind]
      rw [bump _ _ _ _ ht]
      by_cases hj : j = i
      · rw [if_pos hj, if_pos ⟨hc, hj⟩]
      · rw [if_neg hj, if_neg (fun h => hj h.2)]
    · rw [if_neg hc, if_neg (fun h => hc h.1), Nat.add_zero, e16, e16]
      congr 1
      rw [Nat.pow_succ]; grind
  · have := pow16_lt ht
    have := dg_lt (P / d * 2 ^ (16 * i + (t + 1))) i
    omega

theorem results_row_tmp2 {P : Program} {fn : Func} {p u v : Tmp} {ty : TypeId} (h : fn.results = #[.cell p ty, .tmp u, .tmp v]) (tmps : Array Value) (w : World) (g : Nat) (t : TypeId) (cs : Array Value) (fr : Nat × Nat) (d : TypeDesc)
    (hp : tmps.getD p undef = .pointer (some ⟨g, 0, none⟩)) (hg : w.heap[g]? = some (.cells cs t fr))
    (hu : P.underlying ty = some d) (hd : (match d with | .struct _ | .array _ _ => true | _ => false) = true) (hi : (P.info? ty).map (·.size) = some cs.size) (b c : Value) (hb : tmps.getD u undef = b) (hc : tmps.getD v undef = c) :
    (results fn tmps).run P w = .ok (.tuple #[.agg cs, b, c]) w := by
  have hp' : tmps[p]?.getD undef = .pointer (some ⟨g, 0, none⟩) := by simpa using hp
  have hb' : tmps[u]?.getD undef = b := by simpa using hb
  have hc' : tmps[v]?.getD undef = c := by simpa using hc
  simp [results, h, hp', hb', hc', asAddr, run_loadVar_row w g t ty cs fr d hg hu hd hi]

set_option maxHeartbeats 4000000 in
theorem r1Div_raw (nh nl d : Nat) (h1 : nh < 9223372036854775808) (h2 : nl < 18446744073709551616) (hd : 0 < d) (hd2 : d < 18446744073709551616) (w : World) :
    Calls Tryz.prog 149 #[.agg #[.int .i64 (nh : Nat), .int .u64 (nl : Nat)], .int .u64 (d : Nat)] w fun e w' => e = .returned (.tuple #[bigV ((nh * 18446744073709551616 + nl) / d), .int .u64 ((nh * 18446744073709551616 + nl) % d : Nat), .int .i64 0]) ∧ Fr w w' := by
  have HOA := Lib.hid (fun w => r1of_calls nh nl h1 h2 w)
  have HBE := Lib.hid (fun w => r1below_calls (nh * 18446744073709551616 + nl) (by omega) w)
  have d1 : ((d : Int) == 0) = false := by rw [beq_eq_false_iff_ne]; omega
  obtain ⟨N, hN⟩ : ∃ N, N = nh * 18446744073709551616 + nl := ⟨_, rfl⟩
  rw [← hN] at HOA HBE ⊢
  have HNB : Hid (N < 170141183460469231731687303715884105728) := by rw [Hid, hN]; omega
  unfold numV numC at HOA HBE
  clear hN
  obtain ⟨RR, hRR⟩ : ∃ r, r = N % d := ⟨_, rfl⟩
  obtain ⟨H, hH⟩ : ∃ H, H = N / d / 18446744073709551616 := ⟨_, rfl⟩
  obtain ⟨L, hL⟩ : ∃ H, H = N / d % 18446744073709551616 := ⟨_, rfl⟩
  have HHL : Hid (H * 18446744073709551616 + L = N / d ∧ H < 9223372036854775808 ∧ L < 18446744073709551616) := by
    have hq0 : N / d ≤ N := Nat.div_le_self _ _
    have := HNB.out
    exact ⟨by omega, by omega, by omega⟩
  have HRR := Lib.hid hRR
  unfold bigV
  rw [← hRR, ← hH, ← hL]
  clear hRR hH hL
  go_enter Tryz.func149, Tryz.ntmps149
  go_wp2_with fail
  refine (HOA.out _).mono ?_
  rintro e w2 ⟨rfl, q2⟩
  go_wp2_with fail
  have hr2 : Hid (w2.heap[w.heap.size + 1]? = some (.cells #[.int .i64 0, .int .u64 0] 209 (0, 0))) := q2.blk (heap_alloc2_new w (.cells #[.int .i64 (nh : Nat), .int .u64 (nl : Nat)] 209) (.cells #[.int .i64 0, .int .u64 0] 209))
  have hf2 : Hid (Fr w w2) := (((Fr.refl w).alloc _).alloc _).trans q2
  clear q2
  refine (HBE.out _).mono ?_
  rintro e w3 ⟨rfl, q3⟩
  have hn3 : Hid (w3.heap[w2.heap.size]? = some (.cells (numC (dg N)) 227 (0, 0))) := q3.blk (heap_alloc_new w2 _)
  have hr3 : Hid (w3.heap[w.heap.size + 1]? = some (.cells #[.int .i64 0, .int .u64 0] 209 (0, 0))) := q3.blk (((Fr.refl w2).alloc _).blk hr2.out)
  have hf3 : Hid (Fr w w3) := (hf2.out.alloc _).trans q3
  have HSZ : Hid (w.heap.size + 1 < w2.heap.size ∧ w2.heap.size < w3.heap.size) := ⟨(Array.getElem?_eq_some_iff.1 hr2.out).1, (Array.getElem?_eq_some_iff.1 hn3.out).1⟩
  clear q3
  go_wp2_with fail
  obtain ⟨wq, hwq⟩ : ∃ wq, wq = w3.alloc (.cells #[.int .i64 0, .int .i64 0, .int .i64 0, .int .i64 0, .int .i64 0, .int .i64 0, .int .i64 0, .int .i64 0] 227) := ⟨_, rfl⟩
  have hq : Hid (wq.heap[w3.heap.size]? = some (.cells z8 227 (0, 0))) := by rw [hwq]; exact heap_alloc_new w3 _
  have hnq : Hid (wq.heap[w2.heap.size]? = some (.cells (numC (dg N)) 227 (0, 0))) := by rw [hwq]; exact ((Fr.refl w3).alloc _).blk hn3.out
  have hrq : Hid (wq.heap[w.heap.size + 1]? = some (.cells #[.int .i64 0, .int .u64 0] 209 (0, 0))) := by rw [hwq]; exact ((Fr.refl w3).alloc _).blk hr3.out
  have hfq : Hid (Fr w wq) := by rw [hwq]; exact hf3.out.alloc _
  rw [← hwq]
  clear hwq
  have hN8 : N / 2 ^ (16 * 8) = 0 := Nat.div_eq_of_lt (by have := HNB.out; simp only [Nat.reduceMul, Nat.reducePow]; omega)
  go_loopw [10, 11] (fun v10 v11 wr => ∃ m : Nat, v11 = .int .i64 ((m : Int) - 1) ∧ v10 = .int .u64 (N / 2 ^ (16 * m) % d : Nat) ∧ m ≤ 8 ∧ Hid (wr.heap[w3.heap.size]? = some (.cells (numC (dg (N / 2 ^ (16 * m) / d * 2 ^ (16 * m)))) 227 (0, 0))) ∧ Hid (wr.heap[w2.heap.size]? = some (.cells (numC (dg N)) 227 (0, 0))) ∧ Hid (wr.heap[w.heap.size + 1]? = some (.cells #[.int .i64 0, .int .u64 0] 209 (0, 0))) ∧ Hid (Fr w wr)) (fun _ v11 _ => (intOf v11 + 1).toNat)
  case atStart => exact ⟨8, rfl, by rw [hN8, Nat.zero_mod]; rfl, by omega, by rw [hN8, Nat.zero_div, Nat.zero_mul, Hid, hq.out, z8_num, numC_ext (f := fun _ => 0) (g := dg 0) (fun j _ => by unfold dg; simp)], hnq, hrq, hfq⟩
  case round =>
    clear hq hnq hrq hfq hr2 hf2 hn3 hr3 hf3
    obtain ⟨m, rfl, rfl, hm8, hbq, hbn, hbr, hf⟩ := hrel
    obtain ⟨wo, hwo⟩ : ∃ wo, wo = wr := ⟨_, rfl⟩
    subst hwo
    rcases Nat.eq_zero_or_pos m with h0 | h0
    · subst h0
      rw [Nat.mul_zero, Nat.pow_zero, Nat.div_one, Nat.mul_one] at hbq
      rw [Nat.mul_zero, Nat.pow_zero, Nat.div_one]
      have HD := Lib.hid (fun w => r1told_calls H L HHL.out.2.1 HHL.out.2.2 w)
      rw [HHL.out.1] at HD
      unfold numV numC at HD
      rw [← HRR.out]
      obtain ⟨c0, c1, c2, c3, c4, c5, c6, c7⟩ := num8 hbq.out
      have g1 : ¬ ((0 : Nat) : Int) - 1 ≥ 0 := by omega
      have g2 : decide (((0 : Nat) : Int) - 1 ≥ 0) = false := decide_eq_false g1
      go_wp2_with fail
      refine (HD.out _).mono ?_
      rintro e w5 ⟨rfl, q5⟩
      have hb5 : Hid (w5.heap[w.heap.size + 1]? = some (.cells #[.int .i64 0, .int .u64 0] 209 (0, 0))) := q5.blk hbr.out
      have hf5 : Hid (Fr w w5) := hf.out.trans q5
      obtain ⟨k0, k1⟩ := cells2 hb5.out
      have z0 := blk_frozen hb5.out 0
      have z1 := blk_frozen hb5.out 1
      clear q5 c0 c1 c2 c3 c4 c5 c6 c7
      go_wp2_with fail
      exact bodyPost_ret (results_row_tmp2 rfl _ _ (w.heap.size + 1) _ _ (0, 0) _ rfl (blk_set (blk_set hb5.out 0 _) 1 _) Tryz.underlying209 rfl (by kernel_rfl) _ _ rfl rfl) rfl ⟨rfl, (hf5.out.set (p := ⟨w.heap.size + 1, 0, none⟩) (by show _ ≤ w.heap.size + 1; omega) _).set (p := ⟨w.heap.size + 1, 1, none⟩) (by show _ ≤ w.heap.size + 1; omega) _⟩
    · obtain ⟨i, rfl⟩ : ∃ i, m = i + 1 := ⟨m - 1, by omega⟩
      rw [show ((i + 1 : Nat) : Int) - 1 = (i : Int) by omega]
      have g1 : decide ((i : Int) ≥ 0) = true := decide_eq_true (by omega)
      rw [show 16 * (i + 1) = 16 * i + 16 by omega] at hbq ⊢
      go_wp2_with fail
      go_loopw [10, 12] (fun v10 v12 wr => ∃ u : Nat, u ≤ 16 ∧ v12 = .int .i64 (2 ^ u / 2 : Nat) ∧ v10 = .int .u64 (N / 2 ^ (16 * i + u) % d : Nat) ∧ Hid (wr.heap[w3.heap.size]? = some (.cells (numC (dg (N / 2 ^ (16 * i + u) / d * 2 ^ (16 * i + u)))) 227 (0, 0))) ∧ Hid (wr.heap[w2.heap.size]? = some (.cells (numC (dg N)) 227 (0, 0))) ∧ Hid (wr.heap[w.heap.size + 1]? = some (.cells #[.int .i64 0, .int .u64 0] 209 (0, 0))) ∧ Hid (Fr w wr)) (fun _ v12 _ => (intOf v12).toNat)
      case atStart => exact ⟨16, by omega, rfl, rfl, hbq, hbn, hbr, hf⟩
      case round =>
        clear hbq hbn hbr hf
        obtain ⟨u, hu, rfl, rfl, hbq, hbn, hbr, hf⟩ := hrel
        rcases Nat.eq_zero_or_pos u with hu0 | hu0
        · subst hu0
          have g2 : decide (((2 ^ 0 / 2 : Nat) : Int) > 0) = false := by decide
          have g3 : ¬ ((2 ^ 0 / 2 : Nat) : Int) > 0 := by decide
          have w1 : IntKind.i64.wrap ((i : Int) - 1) = (i : Int) - 1 := wrap_i64_in _ (by omega) (by omega)
          go_wp2_with fail
          exact ⟨⟨i, rfl, rfl, by omega, hbq, hbn, hbr, hf⟩, by simp only [intOf]; omega⟩
        · obtain ⟨t, rfl⟩ : ∃ t, u = t + 1 := ⟨u - 1, by omega⟩
          have ht : t < 16 := by omega
          rw [half_pow]
          obtain ⟨hK1, hK2⟩ := pow16_lt ht
          have HNX := Lib.hid (div_bump N d i t hd ht)
          obtain ⟨K, hK⟩ : ∃ K, K = 2 ^ t := ⟨_, rfl⟩
          obtain ⟨R, hR⟩ : ∃ R, R = N / 2 ^ (16 * i + (t + 1)) % d := ⟨_, rfl⟩
          have hRd : R < d := by rw [hR]; exact Nat.mod_lt _ hd
          obtain ⟨X, hX⟩ : ∃ X, X = dg N i := ⟨_, rfl⟩
          have hX2 : X < 65536 := by rw [hX]; exact dg_lt _ _
          obtain ⟨Y, hY⟩ : ∃ Y, Y = dg (N / 2 ^ (16 * i + (t + 1)) / d * 2 ^ (16 * i + (t + 1))) i := ⟨_, rfl⟩
          have c1 := num_cells hbn.out i (by omega)
          have c2 := num_cells hbq.out i (by omega)
          have z2 := blk_frozen hbq.out i
          rw [← hX] at c1
          rw [← hY] at c2
          rw [← hK, ← hR, ← hX, ← hY] at HNX
          rw [← hK] at hK1 hK2 ⊢
          rw [← hR]
          have HY := Lib.hid hY
          have HKK := Lib.hid hK
          clear hK hR hX hY
          obtain ⟨b, hb⟩ : ∃ b, b = X / K % 2 := ⟨_, rfl⟩
          rw [← hb] at HNX
          have hb2 : b < 2 := by omega
          have hYK : Y + K < 4294967296 := HNX.out.2.2
          have g2 : decide ((K : Int) > 0) = true := decide_eq_true (by omega)
          have g3 : (K : Int) > 0 := by omega
          have g4 : ((K : Int) == 0) = false := by rw [beq_eq_false_iff_ne]; omega
          have q1 : (X : Int).tdiv (K : Int) = ((X / K : Nat) : Int) := by rw [Int.tdiv_eq_ediv_of_nonneg (by omega)]; rfl
          have hXK : X / K ≤ X := Nat.div_le_self _ _
          obtain ⟨Z, hZ⟩ : ∃ Z, Z = X / K := ⟨_, rfl⟩
          rw [← hZ] at q1 hb hXK
          clear hZ
          have q2 : IntKind.i64.wrap (Z : Int) = (Z : Int) := wrap_i64_in _ (by omega) (by omega)
          have ww1 : IntKind.i64.wrap ((Y : Int) + (K : Int)) = ((Y + K : Nat) : Int) := by rw [show ((Y + K : Nat) : Int) = (Y : Int) + K by omega]; exact wrap_i64_in _ (by omega) (by omega)
          obtain ⟨R2, hR2⟩ : ∃ R2 : Nat, R2 = (2 * R) % 18446744073709551616 := ⟨_, rfl⟩
          have ww2 : IntKind.u64.wrap (2 * (R : Int)) = (R2 : Int) := by
            show (2 * (R : Int)) % 18446744073709551616 = _
            omega
          obtain ⟨R3, hR3⟩ : ∃ R3, R3 = R2 + 1 := ⟨_, rfl⟩
          have ww3 : IntKind.u64.wrap ((R2 : Int) + 1) = (R3 : Int) := by rw [show (R3 : Int) = (R2 : Int) + 1 by omega]; exact wrap_u64_in _ (by omega) (by omega)
          obtain ⟨R4, hR4⟩ : ∃ R4, R4 = (R2 + 18446744073709551616 - d) % 18446744073709551616 := ⟨_, rfl⟩
          obtain ⟨R5, hR5⟩ : ∃ R4, R4 = (R3 + 18446744073709551616 - d) % 18446744073709551616 := ⟨_, rfl⟩
          have ww4 : IntKind.u64.wrap ((R2 : Int) - (d : Int)) = (R4 : Int) := by
            show ((R2 : Int) - (d : Int)) % 18446744073709551616 = _
            omega
          have ww5 : IntKind.u64.wrap ((R3 : Int) - (d : Int)) = (R5 : Int) := by
            show ((R3 : Int) - (d : Int)) % 18446744073709551616 = _
            omega
          have wK : IntKind.i64.wrap ((K / 2 : Nat) : Int) = ((K / 2 : Nat) : Int) := wrap_i64_in _ (by omega) (by omega)
          have HT : Hid (∀ r' : Nat, d ≤ 2 * R + b → r' = 2 * R + b - d → ∃ u, u ≤ 16 ∧ Value.int .i64 ((K / 2 : Nat) : Int) = .int .i64 (2 ^ u / 2 : Nat) ∧ Value.int .u64 (r' : Nat) = .int .u64 (N / 2 ^ (16 * i + u) % d : Nat) ∧ Hid ((wr.setCell ⟨w3.heap.size, i, none⟩ (.int .i64 ((Y + K : Nat) : Int))).heap[w3.heap.size]? = some (.cells (numC (dg (N / 2 ^ (16 * i + u) / d * 2 ^ (16 * i + u)))) 227 (0, 0))) ∧ Hid ((wr.setCell ⟨w3.heap.size, i, none⟩ (.int .i64 ((Y + K : Nat) : Int))).heap[w2.heap.size]? = some (.cells (numC (dg N)) 227 (0, 0))) ∧ Hid ((wr.setCell ⟨w3.heap.size, i, none⟩ (.int .i64 ((Y + K : Nat) : Int))).heap[w.heap.size + 1]? = some (.cells #[.int .i64 0, .int .u64 0] 209 (0, 0))) ∧ Hid (Fr w (wr.setCell ⟨w3.heap.size, i, none⟩ (.int .i64 ((Y + K : Nat) : Int))))) := by
            intro r' hc hr'
            refine ⟨t, by omega, by rw [HKK.out], by rw [HNX.out.1, if_pos hc, hr'], num_set hbq.out _ (by omega) ?_ (fun j _ hj => ?_), blk_set_ne hbn.out (by have := HSZ.out; simp; omega) _, blk_set_ne hbr.out (by have := HSZ.out; simp; omega) _, hf.out.set (p := ⟨w3.heap.size, i, none⟩) (by have := HSZ.out; show _ ≤ w3.heap.size; omega) _⟩
            · rw [HNX.out.2.1, if_pos ⟨hc, rfl⟩]
            · rw [HNX.out.2.1, if_neg (fun h => hj h.2)]
          have HFA : Hid (∀ r' : Nat, ¬ d ≤ 2 * R + b → r' = 2 * R + b → ∃ u, u ≤ 16 ∧ Value.int .i64 ((K / 2 : Nat) : Int) = .int .i64 (2 ^ u / 2 : Nat) ∧ Value.int .u64 (r' : Nat) = .int .u64 (N / 2 ^ (16 * i + u) % d : Nat) ∧ Hid (wr.heap[w3.heap.size]? = some (.cells (numC (dg (N / 2 ^ (16 * i + u) / d * 2 ^ (16 * i + u)))) 227 (0, 0))) ∧ Hid (wr.heap[w2.heap.size]? = some (.cells (numC (dg N)) 227 (0, 0))) ∧ Hid (wr.heap[w.heap.size + 1]? = some (.cells #[.int .i64 0, .int .u64 0] 209 (0, 0))) ∧ Hid (Fr w wr)) := by
            intro r' hc hr'
            refine ⟨t, by omega, by rw [HKK.out], by rw [HNX.out.1, if_neg hc, hr'], ?_, hbn, hbr, hf⟩
            rw [Hid, hbq.out]
            rw [numC_ext (fun j _ => (HNX.out.2.1 j).trans (if_neg (fun h => hc h.1)))]
          have hKI : (K : Int) / 2 = ((K / 2 : Nat) : Int) := by omega
          have hKm : K / 2 < K := by omega
          have HW := Lib.hid (And.intro hKI hKm)
          clear hKI hKm HNX HKK HY hu ht
          rcases Nat.lt_or_ge R 9223372036854775808 with hov | hov
          · have d1 : decide ((R : Int) ≥ 9223372036854775808) = false := decide_eq_false (by omega)
            have d1' : decide (9223372036854775808 ≤ R) = false := decide_eq_false (by omega)
            have eR2 : R2 = 2 * R := by omega
            rcases (show b = 0 ∨ b = 1 by omega) with h01 | h01
            · have d2 : decide (Z % 2 = 1) = false := decide_eq_false (by omega)
              have d2' : ((Z : Int) % 2 == 1) = false := by rw [beq_eq_false_iff_ne]; omega
              by_cases hc : d ≤ 2 * R + b
              · have d3 : decide ((R2 : Int) ≥ (d : Int)) = true := decide_eq_true (by omega)
                have d3' : decide (d ≤ R2) = true := decide_eq_true (by omega)
                have hfin := Lib.hid (HT.out R4 hc (by omega))
                clear hc HT HFA hR2 hR3 hR4 hR5 eR2 hov
                go_wp2_with fail
                rw [HW.out.1]
                exact ⟨hfin.out, by simp only [intOf]; have := HW.out.2; omega⟩
              · have d3 : decide ((R2 : Int) ≥ (d : Int)) = false := decide_eq_false (by omega)
                have d3' : decide (d ≤ R2) = false := decide_eq_false (by omega)
                have hfin := Lib.hid (HFA.out R2 hc (by omega))
                clear hc HT HFA hR2 hR3 hR4 hR5 eR2 hov
                go_wp2_with fail
                rw [HW.out.1]
                exact ⟨hfin.out, by simp only [intOf]; have := HW.out.2; omega⟩
            · have d2 : decide (Z % 2 = 1) = true := decide_eq_true (by omega)
              have d2' : ((Z : Int) % 2 == 1) = true := by rw [beq_iff_eq]; omega
              by_cases hc : d ≤ 2 * R + b
              · have d3 : decide ((R3 : Int) ≥ (d : Int)) = true := decide_eq_true (by omega)
                have d3' : decide (d ≤ R3) = true := decide_eq_true (by omega)
                have hfin := Lib.hid (HT.out R5 hc (by omega))
                clear hc HT HFA hR2 hR3 hR4 hR5 eR2 hov
                go_wp2_with fail
                rw [HW.out.1]
                exact ⟨hfin.out, by simp only [intOf]; have := HW.out.2; omega⟩
              · have d3 : decide ((R3 : Int) ≥ (d : Int)) = false := decide_eq_false (by omega)
                have d3' : decide (d ≤ R3) = false := decide_eq_false (by omega)
                have hfin := Lib.hid (HFA.out R3 hc (by omega))
                clear hc HT HFA hR2 hR3 hR4 hR5 eR2 hov
                go_wp2_with fail
                rw [HW.out.1]
                exact ⟨hfin.out, by simp only [intOf]; have := HW.out.2; omega⟩
          · have d1 : decide ((R : Int) ≥ 9223372036854775808) = true := decide_eq_true (by omega)
            have d1' : decide (9223372036854775808 ≤ R) = true := decide_eq_true (by omega)
            have eR2 : R2 + 18446744073709551616 = 2 * R := by omega
            rcases (show b = 0 ∨ b = 1 by omega) with h01 | h01
            · have d2 : decide (Z % 2 = 1) = false := decide_eq_false (by omega)
              have d2' : ((Z : Int) % 2 == 1) = false := by rw [beq_eq_false_iff_ne]; omega
              have hfin := Lib.hid (HT.out R4 (by omega) (by omega))
              clear HT HFA hR2 hR3 hR4 hR5 eR2 hov
              go_wp2_with fail
              rw [HW.out.1]
              exact ⟨hfin.out, by simp only [intOf]; have := HW.out.2; omega⟩
            · have d2 : decide (Z % 2 = 1) = true := decide_eq_true (by omega)
              have d2' : ((Z : Int) % 2 == 1) = true := by rw [beq_iff_eq]; omega
              have hfin := Lib.hid (HT.out R5 (by omega) (by omega))
              clear HT HFA hR2 hR3 hR4 hR5 eR2 hov
              go_wp2_with fail
              rw [HW.out.1]
              exact ⟨hfin.out, by simp only [intOf]; have := HW.out.2; omega⟩
/- PLAN of the loops: outer slots [10, 11], i = m - 1: r = N / 2 ^ (16 * m) % d, q's block = numC (dg (N / 2 ^ (16 * m) / d * 2 ^ (16 * m))); inner slots [10, 12], u bits left of digit i:
   k = if u = 0 then 0 else 2 ^ (u - 1), r = N / 2 ^ (16 * i + u) % d, q's block alike with 16 * i + u; a step: half, div_step, bump. 'over': r >= 2^63, then 2 * r wraps and r - d mod 2^64 is right. -/
end Go.Proofs.YthjimnmgbcckjaaGreat
namespace Go.Proofs.YthjimnmgbcckjaaGreat
set_option maxRecDepth 100000
open Go.RowKit Go.Inc Go.Run

theorem two_read : Ieee.double.read 4611686018427387904 = .number false 4503599627370496 (-51) := by decide +kernel
/-- Half of a float. -/
theorem half_word {K : Nat} {y : Int} (h1 : 4503599627370496 ≤ K) (h2 : K ≤ 9007199254740992) (hy : -1000 ≤ y ∧ y ≤ 900) : Ieee.double.div (kw K y) 4611686018427387904 = some (kw K (y - 1)) := by
  have hx : kw K y < 9218868437227405312 := by unfold kw; omega
  have hx' : kw K (y - 1) < 9218868437227405312 := by unfold kw; omega
  have hm0 : kw K y % 9223372036854775808 = kw K y := Nat.mod_eq_of_lt (by omega)
  have hs : (kw K y / 9223372036854775808 % 2 == 1) = false := by rw [Nat.div_eq_of_lt (by omega)]; rfl
  obtain ⟨m, p, hr, hp1, hp2, hm, hm2⟩ := Flo.read_fin (x := kw K y) (by unfold Flo.fin; omega)
  rw [hs] at hr
  rw [hm0] at hm
  have hv : Flo.rv (kw K y) = K * 2 ^ (1074 + y).toNat := Flo.rv_of _ _ h2 (.inr h1)
  have hv' : Flo.rv (kw K (y - 1)) = K * 2 ^ (1074 + (y - 1)).toNat := Flo.rv_of _ _ h2 (.inr h1)
  have hl : (4503599627370496 : Nat).log2 = 52 := by decide +kernel
  have hlm : m.log2 ≤ 52 := by
    by_cases h0 : m = 0
    · subst h0; decide +kernel
    · have := Flo.log2_mono (a := m) (b := 9007199254740991) (by omega) h0
      have e : (9007199254740991 : Nat).log2 = 52 := by decide +kernel
      omega
  unfold Ieee.Format.div
  rw [hr, two_read]
  show Option.map _ (Ieee.Datum.quotient 54 (.number false m p) (.number false 4503599627370496 (-51))) = _
  unfold Ieee.Datum.quotient
  dsimp only
  rw [if_neg (by decide)]
  obtain ⟨c, hc⟩ : ∃ c, 54 + (4503599627370496 : Nat).log2 - m.log2 = 52 + c := ⟨54 - m.log2, by omega⟩
  have hc2 : c ≤ 54 := by omega
  simp only [hc, Nat.shiftLeft_eq]
  have e1 : m * 2 ^ (52 + c) = 4503599627370496 * (m * 2 ^ c) := by rw [Nat.pow_add]; grind
  rw [e1, Nat.mul_div_cancel_left _ (by decide), Nat.mul_mod_right]
  show some (Ieee.double.nearest false (2 * (m * 2 ^ c) + 0) (p - -51 - ((52 + c : Nat) : Int) - 1)) = _
  rw [Flo.nearest_eq _ _ _ 200 (by omega)]
  have e2 : (2 * (m * 2 ^ c) + 0) * 2 ^ (p - -51 - ((52 + c : Nat) : Int) - 1 + 1074 + (200 : Nat)).toNat = Flo.rv (kw K (y - 1)) * 2 ^ 200 := by
    obtain ⟨E, hE⟩ : ∃ E, E = (p - -51 - ((52 + c : Nat) : Int) - 1 + 1074 + (200 : Nat)).toNat := ⟨_, rfl⟩
    rw [← hE]
    have e3 : c + 1 + E = (p + 1074).toNat + 199 := by omega
    have e4 : (1074 + y).toNat = (1074 + (y - 1)).toNat + 1 := by omega
    have e5 : m * 2 ^ (c + 1 + E) = K * 2 ^ (1074 + y).toNat * 2 ^ 199 := by rw [e3, Nat.pow_add, ← Nat.mul_assoc, hm, hv]
    have e6 : (2 : Nat) ^ 200 = 2 * 2 ^ 199 := by decide +kernel
    rw [hv', e6]
    generalize (2 : Nat) ^ 199 = Z at *
    rw [e4, Nat.pow_succ, Nat.pow_add, Nat.pow_succ] at e5
    generalize 2 ^ c = A at *
    generalize 2 ^ E = B at *
    generalize 2 ^ (1074 + (y - 1)).toNat = D at *
    have l : (2 * (m * A) + 0) * B = m * (A * 2 * B) := by grind
    rw [l, e5]
    grind
  rw [e2]
  unfold Flo.rnd Flo.wd
  rw [Flo.rndU_rv, Nat.min_eq_left (by omega)]
  rfl

theorem r2double_calls (r den : Nat) (h : r < den) (h2 : den < 18446744073709551616) (w : World) : Calls Tryz.prog 136 #[.int .u64 (r : Nat), .int .u64 (den : Nat)] w fun e w' => e = .returned (.tuple #[.int .u64 ((if den ≤ 2 * r then 2 * r - den else 2 * r : Nat) : Int), .bool (decide (den ≤ 2 * r))]) ∧ w = w' := by
  have w1 : IntKind.u64.wrap ((den : Int) - (r : Int)) = ((den - r : Nat) : Int) := by rw [show ((den - r : Nat) : Int) = (den : Int) - r by omega]; exact wrap_u64_in _ (by omega) (by omega)
  by_cases hc : den ≤ 2 * r
  · rw [if_pos hc, decide_eq_true hc]
    have g1 : decide ((r : Int) ≥ ((den - r : Nat) : Int)) = true := decide_eq_true (by omega)
    have g2 : decide (den - r ≤ r) = true := decide_eq_true (by omega)
    have w2 : IntKind.u64.wrap ((r : Int) - ((den - r : Nat) : Int)) = ((2 * r - den : Nat) : Int) := by rw [show ((2 * r - den : Nat) : Int) = (r : Int) - ((den - r : Nat) : Int) by omega]; exact wrap_u64_in _ (by omega) (by omega)
    obtain ⟨D, hD⟩ : ∃ D, D = den - r := ⟨_, rfl⟩
    obtain ⟨F, hF⟩ : ∃ D, D = 2 * r - den := ⟨_, rfl⟩
    rw [← hD] at w1 g1 g2 w2
    rw [← hF] at w2 ⊢
    have HD := Lib.hid hD
    have HF := Lib.hid hF
    clear hD hF hc h
    go_enter Tryz.func136, Tryz.ntmps136
    go_wp2_with fail
    go_ret2
    exact ⟨rfl, rfl⟩
  · rw [if_neg hc, decide_eq_false hc]
    have g1 : decide ((r : Int) ≥ ((den - r : Nat) : Int)) = false := decide_eq_false (by omega)
    have g2 : decide (den - r ≤ r) = false := decide_eq_false (by omega)
    have w2 : IntKind.u64.wrap (2 * (r : Int)) = ((2 * r : Nat) : Int) := by rw [show ((2 * r : Nat) : Int) = 2 * (r : Int) by omega]; exact wrap_u64_in _ (by omega) (by omega)
    obtain ⟨D, hD⟩ : ∃ D, D = den - r := ⟨_, rfl⟩
    obtain ⟨F, hF⟩ : ∃ D, D = 2 * r := ⟨_, rfl⟩
    rw [← hD] at w1 g1 g2
    rw [← hF] at w2 ⊢
    have HD := Lib.hid hD
    have HF := Lib.hid hF
    clear hD hF hc h
    go_enter Tryz.func136, Tryz.ntmps136
    go_wp2_with fail
    go_ret2
    exact ⟨rfl, rfl⟩

theorem near_round (N d m r : Nat) (hd : 0 < d) (hm : m = 2 * N / d) (hr : r = 2 * N % d) : rneQ N d = m / 2 + (if m % 2 = 1 ∧ (0 < r ∨ m / 2 % 2 = 1) then 1 else 0) := by
  have h1 := Nat.div_add_mod (2 * N) d
  have h2 := Nat.mod_lt (2 * N) hd
  rw [← hm, ← hr] at h1
  rw [← hr] at h2
  have h3 : d * m = 2 * (d * (m / 2)) + d * (m % 2) := by
    conv => lhs; rw [show m = 2 * (m / 2) + m % 2 by omega]
    rw [Nat.mul_add, Nat.mul_left_comm]
  have h4 : N / d = m / 2 := by
    rw [hm, Nat.div_div_eq_div_mul, Nat.mul_comm d 2, Nat.mul_div_mul_left _ _ (by decide)]
  have h5 := Nat.div_add_mod N d
  rw [h4] at h5
  unfold rneQ
  rw [h4]
  rcases Nat.mod_two_eq_zero_or_one m with h6 | h6
  · rw [h6, Nat.mul_zero] at h3
    rw [if_neg (by omega), if_neg (by omega)]
  · rw [h6, Nat.mul_one] at h3
    by_cases h7 : 0 < r ∨ m / 2 % 2 = 1
    · rw [if_pos (by omega), if_pos (by omega)]
    · rw [if_neg (by omega), if_neg (by omega)]
theorem near_step (num den s : Nat) (hd : 0 < den) (hn : 0 < num) (_h1 : num ≤ den) (h2 : den < 18446744073709551616) (hm : num * 2 ^ s / den < 9007199254740992) : s < 117 := by
  rcases Nat.lt_or_ge s 117 with h | h
  · exact h
  · have e : (2 : Nat) ^ 117 ≤ 2 ^ s := Nat.pow_le_pow_right (by decide) h
    have e2 : 1 * 2 ^ 117 ≤ num * 2 ^ s := Nat.mul_le_mul hn e
    have h3 := (Nat.div_lt_iff_lt_mul hd).1 hm
    simp only [Nat.reducePow] at e2
    omega

set_option maxHeartbeats 4000000 in
theorem r2near_calls (num den : Nat) (h0 : 0 < num) (h1 : num ≤ den) (h2 : den < 18446744073709551616) (w : World) :
    Calls Tryz.prog 123 #[.int .u64 (num : Nat), .int .u64 (den : Nat)] w fun e w' => ∃ K t : Nat, e = .returned (.tuple #[.float .f64 (kw K (-(t : Int))), .int .i64 0]) ∧ IsNear num den K t ∧ t ≤ 116 ∧ w = w' := by
  have hd : 0 < den := by omega
  have e1 : ((den : Int) == 0) = false := by rw [beq_eq_false_iff_ne]; omega
  have e2 : ((num : Int) == 0) = false := by rw [beq_eq_false_iff_ne]; omega
  have e3 : (num : Int).tdiv (den : Int) = ((num / den : Nat) : Int) := by rw [Int.tdiv_eq_ediv_of_nonneg (by omega)]; rfl
  have e4 : (num : Int).tmod (den : Int) = ((num % den : Nat) : Int) := by rw [Int.tmod_eq_emod_of_nonneg (by omega)]; rfl
  have b1 := Nat.div_le_self num den
  have b2 := Nat.mod_le num den
  obtain ⟨m0, hm0⟩ : ∃ m, m = num / den := ⟨_, rfl⟩
  obtain ⟨r0, hr0⟩ : ∃ m, m = num % den := ⟨_, rfl⟩
  rw [← hm0] at e3 b1
  rw [← hr0] at e4 b2
  have e5 : IntKind.u64.wrap (m0 : Int) = (m0 : Int) := wrap_u64_in _ (by omega) (by omega)
  have e6 : IntKind.u64.wrap (r0 : Int) = (r0 : Int) := wrap_u64_in _ (by omega) (by omega)
  have HM0 : Hid (m0 = num * 2 ^ 0 / den ∧ r0 = num * 2 ^ 0 % den) := by rw [Nat.pow_zero, Nat.mul_one]; exact ⟨hm0, hr0⟩
  have HM1 : Hid (m0 < 9007199254740992) := by
    rw [Hid, hm0]
    have := (Nat.div_lt_iff_lt_mul (x := num) (y := 9007199254740992) hd).2 (by omega)
    exact this
  have HH : Hid (0 < num ∧ num ≤ den ∧ den < 18446744073709551616 ∧ 0 < den) := ⟨h0, h1, h2, hd⟩
  have HDB : Hid (∀ (r : Nat) (w : World), r < den → Calls Tryz.prog 136 #[.int .u64 (r : Nat), .int .u64 (den : Nat)] w fun e w' => e = .returned (.tuple #[.int .u64 ((if den ≤ 2 * r then 2 * r - den else 2 * r : Nat) : Int), .bool (decide (den ≤ 2 * r))]) ∧ w = w') := fun r w h => r2double_calls r den h h2 w
  have hdz : ¬ den = 0 := by omega
  have hdz' : ¬ (den : Int) = 0 := by omega
  clear hm0 hr0 h0 h1 h2 hd
  go_enter Tryz.func123, Tryz.ntmps123
  go_wp2_with fail
  go_loopw [6, 7, 8] (fun v6 v7 v8 wr => ∃ s m r : Nat, v6 = .int .u64 (m : Nat) ∧ v7 = .int .u64 (r : Nat) ∧ v8 = .int .i64 (-(s : Int)) ∧ Hid (m = num * 2 ^ s / den ∧ r = num * 2 ^ s % den) ∧ s ≤ 117 ∧ Hid (m < 18014398509481984 ∧ (s = 0 → m < 9007199254740992)) ∧ wr = w) (fun _ _ v8 _ => (200 + intOf v8).toNat)
  case atStart => exact ⟨0, m0, r0, rfl, rfl, rfl, HM0, by omega, ⟨by have := HM1.out; omega, fun _ => HM1.out⟩, rfl⟩
  case round =>
    obtain ⟨s, m, r, rfl, rfl, rfl, HM, hs, HB, hww⟩ := hrel
    obtain rfl : w = wr := hww.symm
    rcases Nat.lt_or_ge m 9007199254740992 with hlt | hge
    · have g1 : decide ((m : Int) < 9007199254740992) = true := decide_eq_true (by omega)
      have g1' : decide (m < 9007199254740992) = true := decide_eq_true (by omega)
      have hst : s < 117 := near_step num den s HH.out.2.2.2 HH.out.1 HH.out.2.1 HH.out.2.2.1 (by rw [← HM.out.1]; exact hlt)
      have hrd : r < den := by rw [HM.out.2]; exact Nat.mod_lt _ HH.out.2.2.2
      have HS : Hid (num * 2 ^ (s + 1) / den = 2 * m + (if den ≤ 2 * r then 1 else 0) ∧ num * 2 ^ (s + 1) % den = if den ≤ 2 * r then 2 * r - den else 2 * r) := by
        have h9 := div_step (num * 2 ^ s) 0 den HH.out.2.2.2 (by decide)
        rw [← HM.out.1, ← HM.out.2, Nat.add_zero, Nat.add_zero] at h9
        rw [Hid, show num * 2 ^ (s + 1) = 2 * (num * 2 ^ s) by rw [Nat.pow_succ]; grind]
        exact h9
      have DB := HDB.out r
      obtain ⟨M, hM⟩ : ∃ M, M = 2 * m := ⟨_, rfl⟩
      have w1 : IntKind.u64.wrap (2 * (m : Int)) = (M : Int) := by rw [show (M : Int) = 2 * (m : Int) by omega]; exact wrap_u64_in _ (by omega) (by omega)
      have w2 : IntKind.u64.wrap ((M : Int) + 1) = ((M + 1 : Nat) : Int) := by rw [show ((M + 1 : Nat) : Int) = (M : Int) + 1 by omega]; exact wrap_u64_in _ (by omega) (by omega)
      have w3 : IntKind.i64.wrap (-(s : Int) - 1) = -(s : Int) - 1 := wrap_i64_in _ (by omega) (by omega)
      rw [← hM] at HS
      have hM54 : M < 18014398509481983 := by omega
      by_cases hc : den ≤ 2 * r
      · rw [if_pos hc, decide_eq_true hc] at DB
        rw [if_pos hc, if_pos hc] at HS
        obtain ⟨R, hR⟩ : ∃ R, R = 2 * r - den := ⟨_, rfl⟩
        rw [← hR] at DB HS
        have DBH := Lib.hid DB
        clear DB hM hR hc
        go_wp2_with fail
        refine (DBH.out _ hrd).mono ?_
        rintro e w9 ⟨rfl, rfl⟩
        go_wp2_with fail
        exact ⟨⟨s + 1, M + 1, R, rfl, rfl, by rw [show -((s + 1 : Nat) : Int) = -(s : Int) - 1 by omega], ⟨HS.out.1.symm, HS.out.2.symm⟩, by omega, ⟨by omega, fun h => by omega⟩, trivial⟩, by simp only [intOf]; omega⟩
      · rw [if_neg hc, decide_eq_false hc] at DB
        rw [if_neg hc, if_neg hc] at HS
        obtain ⟨R, hR⟩ : ∃ R, R = 2 * r := ⟨_, rfl⟩
        rw [← hR] at DB HS
        have DBH := Lib.hid DB
        clear DB hM hR hc
        go_wp2_with fail
        refine (DBH.out _ hrd).mono ?_
        rintro e w9 ⟨rfl, rfl⟩
        go_wp2_with fail
        exact ⟨⟨s + 1, M, R, rfl, rfl, by rw [show -((s + 1 : Nat) : Int) = -(s : Int) - 1 by omega], ⟨by rw [HS.out.1]; rfl, HS.out.2.symm⟩, by omega, ⟨by omega, fun h => by omega⟩, trivial⟩, by simp only [intOf]; omega⟩
    · have g1 : decide ((m : Int) < 9007199254740992) = false := decide_eq_false (by omega)
      have g1' : decide (m < 9007199254740992) = false := decide_eq_false (by omega)
      obtain ⟨t, rfl⟩ : ∃ t, s = t + 1 := ⟨s - 1, by have := HB.out.2; omega⟩
      have hd : 0 < den := HH.out.2.2.2
      have hm54 := HB.out.1
      have hm' : m = 2 * (num * 2 ^ t) / den := by rw [HM.out.1, show num * 2 ^ (t + 1) = 2 * (num * 2 ^ t) by rw [Nat.pow_succ]; grind]
      have hr' : r = 2 * (num * 2 ^ t) % den := by rw [HM.out.2, show num * 2 ^ (t + 1) = 2 * (num * 2 ^ t) by rw [Nat.pow_succ]; grind]
      have hlo : 4503599627370496 * den ≤ num * 2 ^ t := by
        have h9 : 9007199254740992 * den ≤ 2 * (num * 2 ^ t) := (Nat.le_div_iff_mul_le hd).1 (by rw [← hm']; exact hge)
        omega
      have hhi : num * 2 ^ t < 9007199254740992 * den := by
        have h9 : 2 * (num * 2 ^ t) < 18014398509481984 * den := (Nat.div_lt_iff_lt_mul hd).1 (by rw [← hm']; exact hm54)
        omega
      have HRND := Lib.hid (near_round (num * 2 ^ t) den m r hd hm' hr')
      have HNR : Hid (∀ K, K = rneQ (num * 2 ^ t) den → IsNear num den K t) := fun K hK => ⟨hlo, hhi, hK⟩
      clear hm' hr' hlo hhi
      obtain ⟨z, hz⟩ : ∃ z : Int, z = -((t + 1 : Nat) : Int) := ⟨_, rfl⟩
      obtain ⟨y, hy⟩ : ∃ z : Int, z = -(t : Int) := ⟨_, rfl⟩
      have w3 : IntKind.i64.wrap (z + 1) = y := by rw [show z + 1 = y by omega]; exact wrap_i64_in _ (by omega) (by omega)
      have d9 : decide (y > 0) = false := decide_eq_false (by omega)
      have d9' : ¬ y > 0 := by omega
      have HY := Lib.hid hy
      rw [← hz]
      clear hz hy
      go_wp2_with fail
      go_loopw [6, 8, 9] (fun v6 v8 v9 wr => v6 = .int .u64 (m : Nat) ∧ v8 = .int .i64 z ∧ v9 = .bool false ∧ wr = w) (fun _ _ _ _ => 0)
      case atStart => exact ⟨rfl, rfl, rfl, rfl⟩
      case round =>
        obtain ⟨rfl, rfl, rfl, hww⟩ := hrel
        obtain rfl : w = wr := hww.symm
        have g2 : decide ((m : Int) ≥ 18014398509481984) = false := decide_eq_false (by omega)
        have g2' : decide (18014398509481984 ≤ m) = false := decide_eq_false (by omega)
        obtain ⟨M, hM⟩ : ∃ M, M = m / 2 := ⟨_, rfl⟩
        have m2 : (m : Int) / 2 = (M : Int) := by omega
        have w4 : IntKind.u64.wrap ((M : Int) + 1) = ((M + 1 : Nat) : Int) := by rw [show ((M + 1 : Nat) : Int) = (M : Int) + 1 by omega]; exact wrap_u64_in _ (by omega) (by omega)
        rw [← hM] at HRND
        have hMb : 4503599627370496 ≤ M ∧ M < 9007199254740992 := by omega
        have wM : IntKind.u64.wrap (M : Int) = (M : Int) := wrap_u64_in _ (by omega) (by omega)
        clear hM
        rcases Nat.mod_two_eq_zero_or_one m with c1 | c1
        · have c1' : ((m : Int) % 2 == 1) = false := by rw [beq_eq_false_iff_ne]; omega
          obtain ⟨K, hK⟩ : ∃ K, K = M := ⟨_, rfl⟩
          rw [← hK] at m2 hMb wM
          clear w4
          rw [← hK] at HRND
          clear hK
          have hKb : 4503599627370496 ≤ K ∧ K ≤ 9007199254740992 := by omega
          have HNEAR := Lib.hid (HNR.out K (by rw [HRND.out]; rw [if_neg (by omega)]; rfl))
          obtain ⟨F0, hF0⟩ : ∃ F, F = kw K 0 := ⟨_, rfl⟩
          have f0 : floatOfInt .f64 (K : Int) = F0 := by
            rw [hF0]
            have h9 : floatOfInt .f64 (K : Int) = Ieee.double.nearest false K 0 := by
              show Ieee.double.nearest (decide ((K : Int) < 0)) (K : Int).natAbs 0 = _
              rw [decide_eq_false (by omega), Int.natAbs_natCast]
            rw [h9, Flo.nat_word hKb.1 hKb.2]; rfl
          have HF0 := Lib.hid hF0
          have HKB := Lib.hid hKb
          clear hF0 hKb hMb hge hm54
          go_wp2_with fail
          go_loopw [8, 13] (fun v8 v13 wr => v8 = .int .i64 y ∧ v13 = .float .f64 F0 ∧ wr = w) (fun _ _ _ => 0)
          case atStart => exact ⟨rfl, rfl, rfl⟩
          case round =>
            obtain ⟨rfl, rfl, hww⟩ := hrel
            obtain rfl : w = wr := hww.symm
            go_wp2_with fail
            go_loopw [8, 13] (fun v8 v13 wr => ∃ u : Nat, u ≤ t ∧ v8 = .int .i64 (-(u : Int)) ∧ v13 = .float .f64 (kw K (-((t - u : Nat) : Int))) ∧ wr = w) (fun v8 _ _ => (-(intOf v8)).toNat)
            case atStart => exact ⟨t, Nat.le_refl _, by rw [HY.out], by rw [HF0.out, Nat.sub_self]; rfl, rfl⟩
            case round =>
              obtain ⟨u, hu, rfl, rfl, hww⟩ := hrel
              obtain rfl : w = wr := hww.symm
              rcases Nat.eq_zero_or_pos u with h0 | h0
              · subst h0
                rw [Nat.sub_zero]
                obtain ⟨F, hF⟩ : ∃ F, F = kw K (-(t : Int)) := ⟨_, rfl⟩
                rw [← hF]
                have HFF := Lib.hid hF
                clear hF
                go_wp2_with fail
                go_ret2
                exact ⟨K, t, by rw [← HFF.out]; rfl, HNEAR.out, by omega, rfl⟩
              · have d10 : decide (-(u : Int) < 0) = true := decide_eq_true (by omega)
                have d10' : -(u : Int) < 0 := by omega
                have HQ := half_word (K := K) (y := -((t - u : Nat) : Int)) HKB.out.1 HKB.out.2 (by omega)
                rw [show -((t - u : Nat) : Int) - 1 = -((t - (u - 1) : Nat) : Int) by omega] at HQ
                obtain ⟨F, hF⟩ : ∃ F, F = kw K (-((t - u : Nat) : Int)) := ⟨_, rfl⟩
                obtain ⟨F', hF'⟩ : ∃ F, F = kw K (-((t - (u - 1) : Nat) : Int)) := ⟨_, rfl⟩
                rw [← hF, ← hF'] at HQ
                rw [← hF]
                have HFF := Lib.hid hF'
                have wq := fun w => run_float_arith (P := Tryz.prog) w .quo 63 .f64 F 4611686018427387904 F' HQ
                have w8 : IntKind.i64.wrap (-(u : Int) + 1) = -(u : Int) + 1 := wrap_i64_in _ (by omega) (by omega)
                clear hF hF' HQ
                go_wp2_with fail
                exact ⟨⟨u - 1, by omega, by rw [show -((u - 1 : Nat) : Int) = -(u : Int) + 1 by omega], by rw [HFF.out], trivial⟩, by simp only [intOf]; omega⟩
        · have c1' : ((m : Int) % 2 == 1) = true := by rw [beq_iff_eq]; omega
          rcases Nat.eq_zero_or_pos r with c2 | c2
          · subst c2
            rcases Nat.mod_two_eq_zero_or_one M with c3 | c3
            · have c3' : ((M : Int) % 2 == 1) = false := by rw [beq_eq_false_iff_ne]; omega
              obtain ⟨K, hK⟩ : ∃ K, K = M := ⟨_, rfl⟩
              rw [← hK] at m2 hMb c3 c3' wM
              clear w4
              rw [← hK] at HRND
              clear hK
              have hKb : 4503599627370496 ≤ K ∧ K ≤ 9007199254740992 := by omega
              have HNEAR := Lib.hid (HNR.out K (by rw [HRND.out]; rw [if_neg (by omega)]; rfl))
              obtain ⟨F0, hF0⟩ : ∃ F, F = kw K 0 := ⟨_, rfl⟩
              have f0 : floatOfInt .f64 (K : Int) = F0 := by
                rw [hF0]
                have h9 : floatOfInt .f64 (K : Int) = Ieee.double.nearest false K 0 := by
                  show Ieee.double.nearest (decide ((K : Int) < 0)) (K : Int).natAbs 0 = _
                  rw [decide_eq_false (by omega), Int.natAbs_natCast]
                rw [h9, Flo.nat_word hKb.1 hKb.2]; rfl
              have HF0 := Lib.hid hF0
              have HKB := Lib.hid hKb
              clear hF0 hKb hMb hge hm54
              go_wp2_with fail
              go_loopw [8, 13] (fun v8 v13 wr => v8 = .int .i64 y ∧ v13 = .float .f64 F0 ∧ wr = w) (fun _ _ _ => 0)
              case atStart => exact ⟨rfl, rfl, rfl⟩
              case round =>
                obtain ⟨rfl, rfl, hww⟩ := hrel
                obtain rfl : w = wr := hww.symm
                go_wp2_with fail
                go_loopw [8, 13] (fun v8 v13 wr => ∃ u : Nat, u ≤ t ∧ v8 = .int .i64 (-(u : Int)) ∧ v13 = .float .f64 (kw K (-((t - u : Nat) : Int))) ∧ wr = w) (fun v8 _ _ => (-(intOf v8)).toNat)
                case atStart => exact ⟨t, Nat.le_refl _, by rw [HY.out], by rw [HF0.out, Nat.sub_self]; rfl, rfl⟩
                case round =>
                  obtain ⟨u, hu, rfl, rfl, hww⟩ := hrel
                  obtain rfl : w = wr := hww.symm
                  rcases Nat.eq_zero_or_pos u with h0 | h0
                  · subst h0
                    rw [Nat.sub_zero]
                    obtain ⟨F, hF⟩ : ∃ F, F = kw K (-(t : Int)) := ⟨_, rfl⟩
                    rw [← hF]
                    have HFF := Lib.hid hF
                    clear hF
                    go_wp2_with fail
                    go_ret2
                    exact ⟨K, t, by rw [← HFF.out]; rfl, HNEAR.out, by omega, rfl⟩
                  · have d10 : decide (-(u : Int) < 0) = true := decide_eq_true (by omega)
                    have d10' : -(u : Int) < 0 := by omega
                    have HQ := half_word (K := K) (y := -((t - u : Nat) : Int)) HKB.out.1 HKB.out.2 (by omega)
                    rw [show -((t - u : Nat) : Int) - 1 = -((t - (u - 1) : Nat) : Int) by omega] at HQ
                    obtain ⟨F, hF⟩ : ∃ F, F = kw K (-((t - u : Nat) : Int)) := ⟨_, rfl⟩
                    obtain ⟨F', hF'⟩ : ∃ F, F = kw K (-((t - (u - 1) : Nat) : Int)) := ⟨_, rfl⟩
                    rw [← hF, ← hF'] at HQ
                    rw [← hF]
                    have HFF := Lib.hid hF'
                    have wq := fun w => run_float_arith (P := Tryz.prog) w .quo 63 .f64 F 4611686018427387904 F' HQ
                    have w8 : IntKind.i64.wrap (-(u : Int) + 1) = -(u : Int) + 1 := wrap_i64_in _ (by omega) (by omega)
                    clear hF hF' HQ
                    go_wp2_with fail
                    exact ⟨⟨u - 1, by omega, by rw [show -((u - 1 : Nat) : Int) = -(u : Int) + 1 by omega], by rw [HFF.out], trivial⟩, by simp only [intOf]; omega⟩
            · have c3' : ((M : Int) % 2 == 1) = true := by rw [beq_iff_eq]; omega
              obtain ⟨K, hK⟩ : ∃ K, K = M + 1 := ⟨_, rfl⟩
              rw [← hK] at w4
              have hKb : 4503599627370496 ≤ K ∧ K ≤ 9007199254740992 := by omega
              have HNEAR := Lib.hid (HNR.out K (by rw [HRND.out]; rw [if_pos ⟨c1, .inr c3⟩, hK]))
              obtain ⟨F0, hF0⟩ : ∃ F, F = kw K 0 := ⟨_, rfl⟩
              have f0 : floatOfInt .f64 (K : Int) = F0 := by
                rw [hF0]
                have h9 : floatOfInt .f64 (K : Int) = Ieee.double.nearest false K 0 := by
                  show Ieee.double.nearest (decide ((K : Int) < 0)) (K : Int).natAbs 0 = _
                  rw [decide_eq_false (by omega), Int.natAbs_natCast]
                rw [h9, Flo.nat_word hKb.1 hKb.2]; rfl
              have HF0 := Lib.hid hF0
              have HKB := Lib.hid hKb
              clear hF0 hKb hK hMb hge hm54
              go_wp2_with fail
              go_loopw [8, 13] (fun v8 v13 wr => v8 = .int .i64 y ∧ v13 = .float .f64 F0 ∧ wr = w) (fun _ _ _ => 0)
              case atStart => exact ⟨rfl, rfl, rfl⟩
              case round =>
                obtain ⟨rfl, rfl, hww⟩ := hrel
                obtain rfl : w = wr := hww.symm
                go_wp2_with fail
                go_loopw [8, 13] (fun v8 v13 wr => ∃ u : Nat, u ≤ t ∧ v8 = .int .i64 (-(u : Int)) ∧ v13 = .float .f64 (kw K (-((t - u : Nat) : Int))) ∧ wr = w) (fun v8 _ _ => (-(intOf v8)).toNat)
                case atStart => exact ⟨t, Nat.le_refl _, by rw [HY.out], by rw [HF0.out, Nat.sub_self]; rfl, rfl⟩
                case round =>
                  obtain ⟨u, hu, rfl, rfl, hww⟩ := hrel
                  obtain rfl : w = wr := hww.symm
                  rcases Nat.eq_zero_or_pos u with h0 | h0
                  · subst h0
                    rw [Nat.sub_zero]
                    obtain ⟨F, hF⟩ : ∃ F, F = kw K (-(t : Int)) := ⟨_, rfl⟩
                    rw [← hF]
                    have HFF := Lib.hid hF
                    clear hF
                    go_wp2_with fail
                    go_ret2
                    exact ⟨K, t, by rw [← HFF.out]; rfl, HNEAR.out, by omega, rfl⟩
                  · have d10 : decide (-(u : Int) < 0) = true := decide_eq_true (by omega)
                    have d10' : -(u : Int) < 0 := by omega
                    have HQ := half_word (K := K) (y := -((t - u : Nat) : Int)) HKB.out.1 HKB.out.2 (by omega)
                    rw [show -((t - u : Nat) : Int) - 1 = -((t - (u - 1) : Nat) : Int) by omega] at HQ
                    obtain ⟨F, hF⟩ : ∃ F, F = kw K (-((t - u : Nat) : Int)) := ⟨_, rfl⟩
                    obtain ⟨F', hF'⟩ : ∃ F, F = kw K (-((t - (u - 1) : Nat) : Int)) := ⟨_, rfl⟩
                    rw [← hF, ← hF'] at HQ
                    rw [← hF]
                    have HFF := Lib.hid hF'
                    have wq := fun w => run_float_arith (P := Tryz.prog) w .quo 63 .f64 F 4611686018427387904 F' HQ
                    have w8 : IntKind.i64.wrap (-(u : Int) + 1) = -(u : Int) + 1 := wrap_i64_in _ (by omega) (by omega)
                    clear hF hF' HQ
                    go_wp2_with fail
                    exact ⟨⟨u - 1, by omega, by rw [show -((u - 1 : Nat) : Int) = -(u : Int) + 1 by omega], by rw [HFF.out], trivial⟩, by simp only [intOf]; omega⟩
          · have c2' : decide ((r : Int) > 0) = true := decide_eq_true (by omega)
            have c2'' : decide (0 < r) = true := decide_eq_true c2
            obtain ⟨K, hK⟩ : ∃ K, K = M + 1 := ⟨_, rfl⟩
            rw [← hK] at w4
            have hKb : 4503599627370496 ≤ K ∧ K ≤ 9007199254740992 := by omega
            have HNEAR := Lib.hid (HNR.out K (by rw [HRND.out]; rw [if_pos ⟨c1, .inl c2⟩, hK]))
            obtain ⟨F0, hF0⟩ : ∃ F, F = kw K 0 := ⟨_, rfl⟩
            have f0 : floatOfInt .f64 (K : Int) = F0 := by
              rw [hF0]
              have h9 : floatOfInt .f64 (K : Int) = Ieee.double.nearest false K 0 := by
                show Ieee.double.nearest (decide ((K : Int) < 0)) (K : Int).natAbs 0 = _
                rw [decide_eq_false (by omega), Int.natAbs_natCast]
              rw [h9, Flo.nat_word hKb.1 hKb.2]; rfl
            have HF0 := Lib.hid hF0
            have HKB := Lib.hid hKb
            clear hF0 hKb hK hMb hge hm54
            go_wp2_with fail
            go_loopw [8, 13] (fun v8 v13 wr => v8 = .int .i64 y ∧ v13 = .float .f64 F0 ∧ wr = w) (fun _ _ _ => 0)
            case atStart => exact ⟨rfl, rfl, rfl⟩
            case round =>
              obtain ⟨rfl, rfl, hww⟩ := hrel
              obtain rfl : w = wr := hww.symm
              go_wp2_with fail
              go_loopw [8, 13] (fun v8 v13 wr => ∃ u : Nat, u ≤ t ∧ v8 = .int .i64 (-(u : Int)) ∧ v13 = .float .f64 (kw K (-((t - u : Nat) : Int))) ∧ wr = w) (fun v8 _ _ => (-(intOf v8)).toNat)
              case atStart => exact ⟨t, Nat.le_refl _, by rw [HY.out], by rw [HF0.out, Nat.sub_self]; rfl, rfl⟩
              case round =>
                obtain ⟨u, hu, rfl, rfl, hww⟩ := hrel
                obtain rfl : w = wr := hww.symm
                rcases Nat.eq_zero_or_pos u with h0 | h0
                · subst h0
                  rw [Nat.sub_zero]
                  obtain ⟨F, hF⟩ : ∃ F, F = kw K (-(t : Int)) := ⟨_, rfl⟩
                  rw [← hF]
                  have HFF := Lib.hid hF
                  clear hF
                  go_wp2_with fail
                  go_ret2
                  exact ⟨K, t, by rw [← HFF.out]; rfl, HNEAR.out, by omega, rfl⟩
                · have d10 : decide (-(u : Int) < 0) = true := decide_eq_true (by omega)
                  have d10' : -(u : Int) < 0 := by omega
                  have HQ := half_word (K := K) (y := -((t - u : Nat) : Int)) HKB.out.1 HKB.out.2 (by omega)
                  rw [show -((t - u : Nat) : Int) - 1 = -((t - (u - 1) : Nat) : Int) by omega] at HQ
                  obtain ⟨F, hF⟩ : ∃ F, F = kw K (-((t - u : Nat) : Int)) := ⟨_, rfl⟩
                  obtain ⟨F', hF'⟩ : ∃ F, F = kw K (-((t - (u - 1) : Nat) : Int)) := ⟨_, rfl⟩
                  rw [← hF, ← hF'] at HQ
                  rw [← hF]
                  have HFF := Lib.hid hF'
                  have wq := fun w => run_float_arith (P := Tryz.prog) w .quo 63 .f64 F 4611686018427387904 F' HQ
                  have w8 : IntKind.i64.wrap (-(u : Int) + 1) = -(u : Int) + 1 := wrap_i64_in _ (by omega) (by omega)
                  clear hF hF' HQ
                  go_wp2_with fail
                  exact ⟨⟨u - 1, by omega, by rw [show -((u - 1 : Nat) : Int) = -(u : Int) + 1 by omega], by rw [HFF.out], trivial⟩, by simp only [intOf]; omega⟩
end Go.Proofs.YthjimnmgbcckjaaGreat
