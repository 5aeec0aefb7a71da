/- Parts of this proof, one behind the other: Ri2. -/
import Derived.StillTail
import Derived.IntWalk
import Derived.WalkMore
import Derived.Deep.RegionHeld3
import Derived.Test.YthjimnmgbcckjaaGreatQV2
namespace Go.Proofs.YthjimnmgbcckjaaGreat
set_option maxRecDepth 100000
open Go.RowKit Go.Inc Go.Run

theorem r1Div_calls (N d : Nat) (hN : N < 170141183460469231731687303715884105728) (hd : 0 < d) (hd2 : d < 18446744073709551616) (w : World) :
    Calls Tryz.prog 149 #[bigV N, .int .u64 (d : Nat)] w fun e w' => e = .returned (.tuple #[bigV (N / d), .int .u64 (N % d : Nat), .int .i64 0]) ∧ Fr w w' := by
  have h := r1Div_raw (N / 18446744073709551616) (N % 18446744073709551616) d (by omega) (by omega) hd hd2 w
  rwa [dg_bigV] at h
theorem down_plain (h l d den : Nat) (hden : 0 < den) : h * d / den + (h * d + l * d) / den + (if den ≤ h * d % den + (h * d + l * d) % den then 1 else 0) = (2 * h + l) * d / den := by
  have e : (2 * h + l) * d = h * d + (h * d + l * d) := by grind
  rw [e]
  generalize h * d + l * d = B
  generalize h * d = A
  have h1 := Nat.div_add_mod A den
  have h2 := Nat.div_add_mod B den
  have h3 := Nat.mod_lt A hden
  have h4 := Nat.mod_lt B hden
  have e2 : A + B = den * (A / den + B / den) + (A % den + B % den) := by rw [Nat.mul_add]; omega
  rw [e2, Nat.mul_add_div hden]
  congr 1
  split
  · rename_i h5
    have : A % den + B % den = den * 1 + (A % den + B % den - den) := by omega
    rw [this, Nat.mul_add_div hden, Nat.div_eq_of_lt (by omega)]
  · rename_i h5
    rw [Nat.div_eq_of_lt (by omega)]
theorem and_one (r : Nat) (h : r < 18446744073709551616) : bits .and .u64 (r : Int) 1 = ((r % 2 : Nat) : Int) := by
  have ha : BitVec.ofInt 64 (r : Int) = BitVec.ofNat 64 r := BitVec.ofInt_natCast ..
  show IntKind.u64.wrap ((BitVec.ofInt 64 (r : Int) &&& BitVec.ofInt 64 1).toNat : Int) = _
  have hb : BitVec.ofInt 64 1 = BitVec.ofNat 64 1 := by decide
  rw [ha, hb, BitVec.toNat_and, BitVec.toNat_ofNat, BitVec.toNat_ofNat, Nat.mod_eq_of_lt (a := r) (by omega), Nat.mod_eq_of_lt (a := 1) (by decide), Nat.and_one_is_mod]
  exact wrap_u64_in _ (by omega) (by omega)

set_option maxHeartbeats 4000000 in
theorem r5down_calls (num den d : Nat) (base : Int) (h1 : num ≤ den) (h2 : 0 < den) (h3 : den < 18446744073709551616) (hd : d < 18446744073709551616) (hb : num * d ≤ 1152921504606846976 * den) (w : World) :
    Calls Tryz.prog 135 #[.agg #[.int .u64 (num : Nat), .int .u64 (den : Nat), .int .i64 base], .int .u64 (d : Nat)] w fun e w' => e = .returned (.tuple #[.int .i64 (num * d / den : Nat), .bool true]) ∧ Fr w w' := by
  have HPL : Hid (∃ q r : Nat, num / den = q ∧ num % den = r ∧ ((q = 0 ∧ r = num) ∨ (q = 1 ∧ r = 0 ∧ d ≤ 1152921504606846976)) ∧ r * d ≤ 1152921504606846976 * den ∧ q * d + r * d / den = num * d / den) := by
    rcases Nat.lt_or_ge num den with h | h
    · exact ⟨0, num, Nat.div_eq_of_lt h, Nat.mod_eq_of_lt h, .inl ⟨rfl, rfl⟩, hb, by omega⟩
    · obtain rfl : num = den := by omega
      refine ⟨1, 0, Nat.div_self h2, Nat.mod_self _, .inr ⟨rfl, rfl, ?_⟩, by omega, ?_⟩
      · rw [Nat.mul_comm] at hb
        exact Nat.le_of_mul_le_mul_right hb h2
      · rw [Nat.zero_mul, Nat.zero_div, Nat.mul_div_cancel_left _ h2]; omega
  obtain ⟨q, r, eq, er, hqr, hrd, hres⟩ := HPL.out
  have hr64 : r < den := by rw [← er]; exact Nat.mod_lt _ h2
  obtain ⟨h, hh⟩ : ∃ h, h = r / 2 := ⟨_, rfl⟩
  obtain ⟨l, hl⟩ : ∃ l, l = r % 2 := ⟨_, rfl⟩
  have hhl : r = 2 * h + l := by omega
  have hrd' : h * d + (h * d + l * d) ≤ 1152921504606846976 * den := by
    have e : (2 * h + l) * d = h * d + (h * d + l * d) := by grind
    rw [← e, ← hhl]; exact hrd
  have HPL2 := down_plain h l d den h2
  rw [← hhl] at HPL2
  have T1 := fun w => r1Times_calls h d (by omega) hd w
  have T2 := fun w => r1Times_calls l d (by omega) hd w
  obtain ⟨A, hA⟩ : ∃ A, A = h * d := ⟨_, rfl⟩
  obtain ⟨C, hC⟩ : ∃ C, C = l * d := ⟨_, rfl⟩
  rw [← hA, ← hC] at hrd' HPL2
  rw [← hA] at T1
  rw [← hC] at T2
  have T3 := fun w => r1Add_calls A C (by omega) w
  obtain ⟨B, hB⟩ : ∃ B, B = A + C := ⟨_, rfl⟩
  rw [← hB] at T3 hrd' HPL2
  have D1 := fun w => r1Div_calls A den (by omega) h2 h3 w
  have D2 := fun w => r1Div_calls B den (by omega) h2 h3 w
  have ha2 := Nat.mod_lt A h2
  have hb2 := Nat.mod_lt B h2
  have hsum := HPL2
  obtain ⟨O, hO⟩ : ∃ O, O = A / den := ⟨_, rfl⟩
  obtain ⟨T, hT⟩ : ∃ O, O = B / den := ⟨_, rfl⟩
  obtain ⟨a, ha⟩ : ∃ O, O = A % den := ⟨_, rfl⟩
  obtain ⟨b, hb'⟩ : ∃ O, O = B % den := ⟨_, rfl⟩
  have hMle : r * d / den ≤ 1152921504606846976 := Nat.le_of_lt_succ ((Nat.div_lt_iff_lt_mul h2).2 (by omega))
  obtain ⟨M, hM⟩ : ∃ M, M = r * d / den := ⟨_, rfl⟩
  obtain ⟨Z, hZ⟩ : ∃ M, M = num * d / den := ⟨_, rfl⟩
  rw [← hO, ← ha] at D1
  rw [← hT, ← hb'] at D2
  rw [← hM] at hMle hres hsum
  rw [← hO, ← hT, ← ha, ← hb'] at hsum
  rw [← ha] at ha2
  rw [← hb'] at hb2
  rw [← hZ] at hres ⊢
  clear hO hT ha hb' hM hZ hB hA hC HPL2 hrd hrd' HPL hb
  have e1 : (num : Int).tdiv (den : Int) = (q : Int) := by rw [Int.tdiv_eq_ediv_of_nonneg (by omega), ← eq]; rfl
  have e2 : (num : Int).tmod (den : Int) = (r : Int) := by rw [Int.tmod_eq_emod_of_nonneg (by omega), ← er]; rfl
  have wq : IntKind.u64.wrap (q : Int) = (q : Int) := wrap_u64_in _ (by omega) (by omega)
  have wr : IntKind.u64.wrap (r : Int) = (r : Int) := wrap_u64_in _ (by omega) (by omega)
  have wh : (r : Int) / 2 = (h : Int) := by omega
  have wh64 : IntKind.i64.wrap (h : Int) = (h : Int) := wrap_i64_in _ (by omega) (by omega)
  have wl : bits .and .u64 (r : Int) 1 = (l : Int) := by rw [and_one r (by omega), hl]
  have wl64 : IntKind.i64.wrap (l : Int) = (l : Int) := wrap_i64_in _ (by omega) (by omega)
  have hOlt : O < 18446744073709551616 := by omega
  have hTlt : T < 18446744073709551616 := by omega
  have hdz : ¬ den = 0 := by omega
  have hdz' : ¬ (den : Int) = 0 := by omega
  have HT1 := Lib.hid T1
  have HT2 := Lib.hid T2
  have HT3 := Lib.hid T3
  have HD1 := Lib.hid D1
  have HD2 := Lib.hid D2
  clear T1 T2 T3 D1 D2 eq er
  have hbO : bigV O = .agg #[.int .i64 0, .int .u64 (O : Nat)] := by unfold bigV; rw [Nat.div_eq_of_lt hOlt, Nat.mod_eq_of_lt hOlt]; rfl
  have hbT : bigV T = .agg #[.int .i64 0, .int .u64 (T : Nat)] := by unfold bigV; rw [Nat.div_eq_of_lt hTlt, Nat.mod_eq_of_lt hTlt]; rfl
  rw [hbO] at HD1
  rw [hbT] at HD2
  clear hbO hbT
  have HW0 := Lib.hid (heap_alloc_new w (.cells #[.int .u64 (num : Nat), .int .u64 (den : Nat), .int .i64 base] 175))
  have HF0 := Lib.hid ((Fr.refl w).alloc (.cells #[.int .u64 (num : Nat), .int .u64 (den : Nat), .int .i64 base] 175))
  obtain ⟨k0, k1, k2⟩ := cells3 HW0.out
  obtain ⟨n, hn⟩ : ∃ n, n = q * d := ⟨_, rfl⟩
  have hnq : (q = 0 ∧ n = 0) ∨ (q = 1 ∧ n = d ∧ d ≤ 1152921504606846976) := by
    rcases hqr with ⟨h9, _⟩ | ⟨h9, _, h10⟩
    · left; subst h9; exact ⟨rfl, by rw [hn]; omega⟩
    · right; subst h9; exact ⟨rfl, by rw [hn]; omega, h10⟩
  rw [← hn] at hres
  have hZb : Z ≤ 2305843009213693952 := by rcases hnq with h9 | h9 <;> omega
  have wn : IntKind.u64.wrap ((q : Int) * (d : Int)) = (n : Int) := by
    have e9 : (q : Int) * (d : Int) = (n : Int) := by rw [hn]; exact (Int.natCast_mul q d).symm
    rw [e9]
    exact wrap_u64_in _ (by omega) (by rcases hnq with h9 | h9 <;> omega)
  obtain ⟨S, hS⟩ : ∃ S, S = O + T := ⟨_, rfl⟩
  have wS : IntKind.u64.wrap ((O : Int) + (T : Int)) = (S : Int) := by rw [show (O : Int) + (T : Int) = (S : Int) by omega]; exact wrap_u64_in _ (by omega) (by omega)
  obtain ⟨E, hE⟩ : ∃ E, E = den - b := ⟨_, rfl⟩
  have wE : IntKind.u64.wrap ((den : Int) - (b : Int)) = (E : Int) := by rw [show (den : Int) - (b : Int) = (E : Int) by omega]; exact wrap_u64_in _ (by omega) (by omega)
  have wM1 : IntKind.u64.wrap ((S : Int) + 1) = (S : Int) + 1 := wrap_u64_in _ (by omega) (by omega)
  obtain ⟨F, hF⟩ : ∃ F, F = 2305843009213693952 - M := ⟨_, rfl⟩
  have wF : IntKind.u64.wrap (2305843009213693952 - (M : Int)) = (F : Int) := by rw [show 2305843009213693952 - (M : Int) = (F : Int) by omega]; exact wrap_u64_in _ (by omega) (by omega)
  have gM : decide ((M : Int) > 2305843009213693952) = false := decide_eq_false (by omega)
  have gM' : decide (2305843009213693952 < M) = false := decide_eq_false (by omega)
  have gF : decide ((n : Int) > (F : Int)) = false := decide_eq_false (by omega)
  have gF' : decide (F < n) = false := decide_eq_false (by omega)
  have wZ : IntKind.u64.wrap ((n : Int) + (M : Int)) = (Z : Int) := by rw [show (n : Int) + (M : Int) = (Z : Int) by omega]; exact wrap_u64_in _ (by omega) (by omega)
  have wZ2 : IntKind.i64.wrap (Z : Int) = (Z : Int) := wrap_i64_in _ (by omega) (by omega)
  have HEE := Lib.hid (And.intro hE (And.intro hS hsum))
  clear hS hE hF hsum hres hn hqr hh hl hhl hZb
  have HPB : Hid (∀ w', Fr (w.alloc (.cells #[.int .u64 (num : Nat), .int .u64 (den : Nat), .int .i64 base] 175)) w' → w'.cell? ⟨w.heap.size, 1, none⟩ = some (.int .u64 (den : Nat))) := fun w' hf => (cells3 (hf.blk HW0.out)).2.1
  rcases hnq with ⟨hq0, hn0⟩ | ⟨hq1, hn1, hd1⟩
  · have gq : decide ((q : Int) > 0) = false := decide_eq_false (by omega)
    have gq' : decide (0 < q) = false := decide_eq_false (by omega)
    clear hq0 hn0
    go_enter Tryz.func135, Tryz.ntmps135
    go_wp2_with fail
    obtain ⟨w1, hw1⟩ : ∃ w1, w1 = w.alloc (.cells #[.int .u64 (num : Nat), .int .u64 (den : Nat), .int .i64 base] 175) := ⟨_, rfl⟩
    rw [← hw1] at HW0 HF0 HPB ⊢
    clear hw1 k0 k1 k2
    have k1 := HPB.out w1 (Fr.refl _)
    go_cut [9, 10, 11] (fun v9 v10 v11 wx => ∃ g9, v9 = .pointer (some ⟨g9, 0, none⟩) ∧ v10 = .int .u64 (a : Nat) ∧ v11 = .int .i64 0 ∧ Hid (wx.heap[g9]? = some (.cells #[.int .i64 0, .int .u64 (O : Nat)] 209 (0, 0))) ∧ Hid (Fr w1 wx))
    case first =>
      go_region_held3 (fun w' => w'.cell? ⟨w.heap.size, 1, none⟩ = some (.int .u64 (den : Nat)))
        (first | (refine HPB.out _ ?_; repeat (first | exact hfb | exact hfa | exact Fr.refl _ | refine Fr.alloc ?_ _ | refine Fr.drew ?_ | (refine Fr.set ?_ (by first | exact Nat.le_refl _ | (have := hfa.size; simp; omega) | (have := hfb.size; simp; omega)) _))))
        (first
          | (go_at_call 150; refine (HT1.out _).mono ?_; rintro e wa ⟨rfl, qa⟩; have hfa : Fr w1 wa := (by (refine Fr.trans ?_ qa; repeat (first | exact Fr.refl _ | refine Fr.alloc ?_ _ | refine Fr.drew ?_))); try (have hn := qa.blk (heap_alloc_new w1 (.cells #[.int .i64 0, .int .u64 0] 209)); obtain ⟨y0, y1⟩ := cells2 hn; have z0 := blk_frozen hn 0; have z1 := blk_frozen hn 1))
          | (go_at_call 149; refine (HD1.out _).mono ?_; rintro e wb ⟨rfl, qb⟩; have hfb : Fr w1 wb := (by (refine Fr.trans ?_ qb; repeat (first | exact hfa | refine Fr.alloc ?_ _ | refine Fr.drew ?_))); have hl := heap_alloc_new wb (.cells #[.int .i64 0, .int .u64 0] 209); obtain ⟨y4, y5⟩ := cells2 hl; have z4 := blk_frozen hl 0; have z5 := blk_frozen hl 1; first
            | (have hm := qb.blk hn; obtain ⟨y2, y3⟩ := cells2 hm; have z2 := blk_frozen hm 0; have z3 := blk_frozen hm 1)
            | (have hq : Fr wa wb := qb)
            | (have hm := qb.blk (heap_alloc_new wa (.cells #[.int .i64 0, .int .u64 0] 209)); obtain ⟨y2, y3⟩ := cells2 hm; have z2 := blk_frozen hm 0; have z3 := blk_frozen hm 1)))
      all_goals (go_wp2_with fail)
      all_goals go_meet
      all_goals
        first
          | exact ⟨wb.heap.size, rfl, rfl, rfl, heap_alloc_new wb _, hfb.alloc _⟩
          | exact ⟨wa.heap.size, rfl, rfl, rfl, blk_set (blk_set hm 0 _) 1 _, (hfb.set (p := ⟨wa.heap.size, 0, none⟩) (by have := hfa.size; show _ ≤ wa.heap.size; omega) _).set (p := ⟨wa.heap.size, 1, none⟩) (by have := hfa.size; show _ ≤ wa.heap.size; omega) _⟩
          | exact ⟨w1.heap.size, rfl, rfl, rfl, blk_set (blk_set hm 0 _) 1 _, (hfb.set (p := ⟨w1.heap.size, 0, none⟩) (Nat.le_refl _) _).set (p := ⟨w1.heap.size, 1, none⟩) (Nat.le_refl _) _⟩
    case rest =>
    obtain ⟨g9, rfl, rfl, rfl, hb9, hf9⟩ := hcut
    obtain ⟨w6, hw6⟩ : ∃ w6, w6 = wc := ⟨_, rfl⟩
    subst hw6
    clear k1
    have HPC : Hid (∀ w', Fr w6 w' → w'.cell? ⟨w.heap.size, 1, none⟩ = some (.int .u64 (den : Nat))) := fun w' hf => HPB.out w' (hf9.out.trans hf)
    have k1 := HPC.out w6 (Fr.refl _)
    go_wp2_with fail
    go_cut [12, 13, 14] (fun v12 v13 v14 wx => ∃ g12, v12 = .pointer (some ⟨g12, 0, none⟩) ∧ v13 = .int .u64 (b : Nat) ∧ v14 = .int .i64 0 ∧ Hid (wx.heap[g12]? = some (.cells #[.int .i64 0, .int .u64 (T : Nat)] 209 (0, 0))) ∧ Hid (Fr w6 wx))
    case first =>
      go_region_held3 (fun w' => w'.cell? ⟨w.heap.size, 1, none⟩ = some (.int .u64 (den : Nat)))
        (first | (refine HPC.out _ ?_; repeat (first | exact hfd | exact hfc | exact hfb | exact hfa | exact Fr.refl _ | refine Fr.alloc ?_ _ | refine Fr.drew ?_ | (refine Fr.set ?_ (by first | exact Nat.le_refl _ | (have := hfd.size; simp; omega) | (have := hfc.size; simp; omega) | (have := hfa.size; simp; omega) | (have := hfb.size; simp; omega)) _))))
        (first
          | (go_at_call 151; refine (HT3.out _).mono ?_; rintro e wc ⟨rfl, qc⟩; have hfc : Fr w6 wc := (by (refine Fr.trans ?_ qc; repeat (first | exact hfb | refine Fr.alloc ?_ _ | refine Fr.drew ?_))); try (first
            | (have hn := qc.blk hn; obtain ⟨y2, y3⟩ := cells2 hn; have z2 := blk_frozen hn 0; have z3 := blk_frozen hn 1)
            | (have hq : Fr wb _ := qc)
            | (have hn := qc.blk (heap_alloc_new wb (.cells #[.int .i64 0, .int .u64 0] 209)); obtain ⟨y2, y3⟩ := cells2 hn; have z2 := blk_frozen hn 0; have z3 := blk_frozen hn 1)))
          | (go_at_call 149; refine (HD2.out _).mono ?_; rintro e wd ⟨rfl, qd⟩; have hfd : Fr w6 wd := (by (refine Fr.trans ?_ qd; repeat (first | exact hfc | refine Fr.alloc ?_ _ | refine Fr.drew ?_))); have hl := heap_alloc_new wd (.cells #[.int .i64 0, .int .u64 0] 209); obtain ⟨y4, y5⟩ := cells2 hl; have z4 := blk_frozen hl 0; have z5 := blk_frozen hl 1; try (first
            | (have hn := qd.blk hn; obtain ⟨y2, y3⟩ := cells2 hn; have z2 := blk_frozen hn 0; have z3 := blk_frozen hn 1)
            | (have hq : Fr wc _ := qd)
            | (have hn := qd.blk (heap_alloc_new wc (.cells #[.int .i64 0, .int .u64 0] 209)); obtain ⟨y2, y3⟩ := cells2 hn; have z2 := blk_frozen hn 0; have z3 := blk_frozen hn 1)))
          | (go_at_call 150; have _h := hfa; refine (HT2.out _).mono ?_; rintro e wb ⟨rfl, qb⟩; have hfb : Fr w6 wb := (by (refine Fr.trans ?_ qb; repeat (first | exact hfa | refine Fr.alloc ?_ _ | refine Fr.drew ?_))); try (first
            | (have hn := qb.blk hn; obtain ⟨y2, y3⟩ := cells2 hn; have z2 := blk_frozen hn 0; have z3 := blk_frozen hn 1)
            | (have hq : Fr wa _ := qb)
            | (have hn := qb.blk (heap_alloc_new wa (.cells #[.int .i64 0, .int .u64 0] 209)); obtain ⟨y2, y3⟩ := cells2 hn; have z2 := blk_frozen hn 0; have z3 := blk_frozen hn 1)))
          | (go_at_call 150; refine (HT1.out _).mono ?_; rintro e wa ⟨rfl, qa⟩; have hfa : Fr w6 wa := (by (refine Fr.trans ?_ qa; repeat (first | exact Fr.refl _ | refine Fr.alloc ?_ _ | refine Fr.drew ?_))); try (have hn := qa.blk (heap_alloc_new w6 (.cells #[.int .i64 0, .int .u64 0] 209)); obtain ⟨y0, y1⟩ := cells2 hn; have z0 := blk_frozen hn 0; have z1 := blk_frozen hn 1)))
      all_goals (go_wp2_with fail)
      all_goals go_meet
      all_goals
        first
          | exact ⟨wd.heap.size, rfl, rfl, rfl, heap_alloc_new wd _, hfd.alloc _⟩
          | exact ⟨wc.heap.size, rfl, rfl, rfl, blk_set (blk_set hn 0 _) 1 _, (hfd.set (p := ⟨wc.heap.size, 0, none⟩) (by have := hfc.size; show _ ≤ wc.heap.size; omega) _).set (p := ⟨wc.heap.size, 1, none⟩) (by have := hfc.size; show _ ≤ wc.heap.size; omega) _⟩
          | exact ⟨wb.heap.size, rfl, rfl, rfl, blk_set (blk_set hn 0 _) 1 _, (hfd.set (p := ⟨wb.heap.size, 0, none⟩) (by have := hfb.size; show _ ≤ wb.heap.size; omega) _).set (p := ⟨wb.heap.size, 1, none⟩) (by have := hfb.size; show _ ≤ wb.heap.size; omega) _⟩
          | exact ⟨wa.heap.size, rfl, rfl, rfl, blk_set (blk_set hn 0 _) 1 _, (hfd.set (p := ⟨wa.heap.size, 0, none⟩) (by have := hfa.size; show _ ≤ wa.heap.size; omega) _).set (p := ⟨wa.heap.size, 1, none⟩) (by have := hfa.size; show _ ≤ wa.heap.size; omega) _⟩
          | exact ⟨w6.heap.size, rfl, rfl, rfl, blk_set (blk_set hn 0 _) 1 _, (hfd.set (p := ⟨w6.heap.size, 0, none⟩) (Nat.le_refl _) _).set (p := ⟨w6.heap.size, 1, none⟩) (Nat.le_refl _) _⟩
    case rest =>
    obtain ⟨g12, rfl, rfl, rfl, hb12, hf12⟩ := hcut
    obtain ⟨w7, hw7⟩ : ∃ w7, w7 = wc := ⟨_, rfl⟩
    subst hw7
    clear k1
    have k1 := HPC.out w7 hf12.out
    obtain ⟨x0, x1⟩ := cells2 (hf12.out.blk hb9.out)
    obtain ⟨y0, y1⟩ := cells2 hb12.out
    have HFW : Hid (Fr w w7) := (HF0.out.trans hf9.out).trans hf12.out
    by_cases hc : den ≤ a + b
    · have gE : decide ((a : Int) ≥ (E : Int)) = true := decide_eq_true (by have := HEE.out.1; omega)
      have gE' : decide (E ≤ a) = true := decide_eq_true (by have := HEE.out.1; omega)
      have eM : S + 1 = M := by have := HEE.out.2; rw [if_pos hc] at this; omega
      have wM3 : IntKind.u64.wrap ((S : Int) + 1) = (M : Int) := by rw [wM1]; omega
      clear wM1 hc eM
      go_wp2_with fail
      go_ret2
      exact ⟨rfl, HFW.out⟩
    · have gE : decide ((a : Int) ≥ (E : Int)) = false := decide_eq_false (by have := HEE.out.1; omega)
      have gE' : decide (E ≤ a) = false := decide_eq_false (by have := HEE.out.1; omega)
      obtain rfl : S = M := by have := HEE.out.2; rw [if_neg hc] at this; omega
      clear hc
      go_wp2_with fail
      go_ret2
      exact ⟨rfl, HFW.out⟩
  · have gq : decide ((q : Int) > 0) = true := decide_eq_true (by omega)
    have gq' : decide (0 < q) = true := decide_eq_true (by omega)
    have gqz : ¬ (q : Int) = 0 := by omega
    have gqz' : ¬ q = 0 := by omega
    have gqd : (2305843009213693952 : Int).tdiv (q : Int) = 2305843009213693952 := by rw [show (q : Int) = 1 by omega]; rfl
    have gd : decide ((d : Int) > 2305843009213693952) = false := decide_eq_false (by omega)
    have gd' : decide (2305843009213693952 < d) = false := decide_eq_false (by omega)
    clear hq1 hn1 hd1
    go_enter Tryz.func135, Tryz.ntmps135
    go_wp2_with fail
    obtain ⟨w1, hw1⟩ : ∃ w1, w1 = w.alloc (.cells #[.int .u64 (num : Nat), .int .u64 (den : Nat), .int .i64 base] 175) := ⟨_, rfl⟩
    rw [← hw1] at HW0 HF0 HPB ⊢
    clear hw1 k0 k1 k2
    have k1 := HPB.out w1 (Fr.refl _)
    go_cut [9, 10, 11] (fun v9 v10 v11 wx => ∃ g9, v9 = .pointer (some ⟨g9, 0, none⟩) ∧ v10 = .int .u64 (a : Nat) ∧ v11 = .int .i64 0 ∧ Hid (wx.heap[g9]? = some (.cells #[.int .i64 0, .int .u64 (O : Nat)] 209 (0, 0))) ∧ Hid (Fr w1 wx))
    case first =>
      go_region_held3 (fun w' => w'.cell? ⟨w.heap.size, 1, none⟩ = some (.int .u64 (den : Nat)))
        (first | (refine HPB.out _ ?_; repeat (first | exact hfb | exact hfa | exact Fr.refl _ | refine Fr.alloc ?_ _ | refine Fr.drew ?_ | (refine Fr.set ?_ (by first | exact Nat.le_refl _ | (have := hfa.size; simp; omega) | (have := hfb.size; simp; omega)) _))))
        (first
          | (go_at_call 150; refine (HT1.out _).mono ?_; rintro e wa ⟨rfl, qa⟩; have hfa : Fr w1 wa := (by (refine Fr.trans ?_ qa; repeat (first | exact Fr.refl _ | refine Fr.alloc ?_ _ | refine Fr.drew ?_))); try (have hn := qa.blk (heap_alloc_new w1 (.cells #[.int .i64 0, .int .u64 0] 209)); obtain ⟨y0, y1⟩ := cells2 hn; have z0 := blk_frozen hn 0; have z1 := blk_frozen hn 1))
          | (go_at_call 149; refine (HD1.out _).mono ?_; rintro e wb ⟨rfl, qb⟩; have hfb : Fr w1 wb := (by (refine Fr.trans ?_ qb; repeat (first | exact hfa | refine Fr.alloc ?_ _ | refine Fr.drew ?_))); have hl := heap_alloc_new wb (.cells #[.int .i64 0, .int .u64 0] 209); obtain ⟨y4, y5⟩ := cells2 hl; have z4 := blk_frozen hl 0; have z5 := blk_frozen hl 1; first
            | (have hm := qb.blk hn; obtain ⟨y2, y3⟩ := cells2 hm; have z2 := blk_frozen hm 0; have z3 := blk_frozen hm 1)
            | (have hq : Fr wa wb := qb)
            | (have hm := qb.blk (heap_alloc_new wa (.cells #[.int .i64 0, .int .u64 0] 209)); obtain ⟨y2, y3⟩ := cells2 hm; have z2 := blk_frozen hm 0; have z3 := blk_frozen hm 1)))
      all_goals (go_wp2_with fail)
      all_goals go_meet
      all_goals
        first
          | exact ⟨wb.heap.size, rfl, rfl, rfl, heap_alloc_new wb _, hfb.alloc _⟩
          | exact ⟨wa.heap.size, rfl, rfl, rfl, blk_set (blk_set hm 0 _) 1 _, (hfb.set (p := ⟨wa.heap.size, 0, none⟩) (by have := hfa.size; show _ ≤ wa.heap.size; omega) _).set (p := ⟨wa.heap.size, 1, none⟩) (by have := hfa.size; show _ ≤ wa.heap.size; omega) _⟩
          | exact ⟨w1.heap.size, rfl, rfl, rfl, blk_set (blk_set hm 0 _) 1 _, (hfb.set (p := ⟨w1.heap.size, 0, none⟩) (Nat.le_refl _) _).set (p := ⟨w1.heap.size, 1, none⟩) (Nat.le_refl _) _⟩
    case rest =>
    obtain ⟨g9, rfl, rfl, rfl, hb9, hf9⟩ := hcut
    obtain ⟨w6, hw6⟩ : ∃ w6, w6 = wc := ⟨_, rfl⟩
    subst hw6
    clear k1
    have HPC : Hid (∀ w', Fr w6 w' → w'.cell? ⟨w.heap.size, 1, none⟩ = some (.int .u64 (den : Nat))) := fun w' hf => HPB.out w' (hf9.out.trans hf)
    have k1 := HPC.out w6 (Fr.refl _)
    go_wp2_with fail
    go_cut [12, 13, 14] (fun v12 v13 v14 wx => ∃ g12, v12 = .pointer (some ⟨g12, 0, none⟩) ∧ v13 = .int .u64 (b : Nat) ∧ v14 = .int .i64 0 ∧ Hid (wx.heap[g12]? = some (.cells #[.int .i64 0, .int .u64 (T : Nat)] 209 (0, 0))) ∧ Hid (Fr w6 wx))
    case first =>
      go_region_held3 (fun w' => w'.cell? ⟨w.heap.size, 1, none⟩ = some (.int .u64 (den : Nat)))
        (first | (refine HPC.out _ ?_; repeat (first | exact hfd | exact hfc | exact hfb | exact hfa | exact Fr.refl _ | refine Fr.alloc ?_ _ | refine Fr.drew ?_ | (refine Fr.set ?_ (by first | exact Nat.le_refl _ | (have := hfd.size; simp; omega) | (have := hfc.size; simp; omega) | (have := hfa.size; simp; omega) | (have := hfb.size; simp; omega)) _))))
        (first
          | (go_at_call 151; refine (HT3.out _).mono ?_; rintro e wc ⟨rfl, qc⟩; have hfc : Fr w6 wc := (by (refine Fr.trans ?_ qc; repeat (first | exact hfb | refine Fr.alloc ?_ _ | refine Fr.drew ?_))); try (first
            | (have hn := qc.blk hn; obtain ⟨y2, y3⟩ := cells2 hn; have z2 := blk_frozen hn 0; have z3 := blk_frozen hn 1)
            | (have hq : Fr wb _ := qc)
            | (have hn := qc.blk (heap_alloc_new wb (.cells #[.int .i64 0, .int .u64 0] 209)); obtain ⟨y2, y3⟩ := cells2 hn; have z2 := blk_frozen hn 0; have z3 := blk_frozen hn 1)))
          | (go_at_call 149; refine (HD2.out _).mono ?_; rintro e wd ⟨rfl, qd⟩; have hfd : Fr w6 wd := (by (refine Fr.trans ?_ qd; repeat (first | exact hfc | refine Fr.alloc ?_ _ | refine Fr.drew ?_))); have hl := heap_alloc_new wd (.cells #[.int .i64 0, .int .u64 0] 209); obtain ⟨y4, y5⟩ := cells2 hl; have z4 := blk_frozen hl 0; have z5 := blk_frozen hl 1; try (first
            | (have hn := qd.blk hn; obtain ⟨y2, y3⟩ := cells2 hn; have z2 := blk_frozen hn 0; have z3 := blk_frozen hn 1)
            | (have hq : Fr wc _ := qd)
            | (have hn := qd.blk (heap_alloc_new wc (.cells #[.int .i64 0, .int .u64 0] 209)); obtain ⟨y2, y3⟩ := cells2 hn; have z2 := blk_frozen hn 0; have z3 := blk_frozen hn 1)))
          | (go_at_call 150; have _h := hfa; refine (HT2.out _).mono ?_; rintro e wb ⟨rfl, qb⟩; have hfb : Fr w6 wb := (by (refine Fr.trans ?_ qb; repeat (first | exact hfa | refine Fr.alloc ?_ _ | refine Fr.drew ?_))); try (first
            | (have hn := qb.blk hn; obtain ⟨y2, y3⟩ := cells2 hn; have z2 := blk_frozen hn 0; have z3 := blk_frozen hn 1)
            | (have hq : Fr wa _ := qb)
            | (have hn := qb.blk (heap_alloc_new wa (.cells #[.int .i64 0, .int .u64 0] 209)); obtain ⟨y2, y3⟩ := cells2 hn; have z2 := blk_frozen hn 0; have z3 := blk_frozen hn 1)))
          | (go_at_call 150; refine (HT1.out _).mono ?_; rintro e wa ⟨rfl, qa⟩; have hfa : Fr w6 wa := (by (refine Fr.trans ?_ qa; repeat (first | exact Fr.refl _ | refine Fr.alloc ?_ _ | refine Fr.drew ?_))); try (have hn := qa.blk (heap_alloc_new w6 (.cells #[.int .i64 0, .int .u64 0] 209)); obtain ⟨y0, y1⟩ := cells2 hn; have z0 := blk_frozen hn 0; have z1 := blk_frozen hn 1)))
      all_goals (go_wp2_with fail)
      all_goals go_meet
      all_goals
        first
          | exact ⟨wd.heap.size, rfl, rfl, rfl, heap_alloc_new wd _, hfd.alloc _⟩
          | exact ⟨wc.heap.size, rfl, rfl, rfl, blk_set (blk_set hn 0 _) 1 _, (hfd.set (p := ⟨wc.heap.size, 0, none⟩) (by have := hfc.size; show _ ≤ wc.heap.size; omega) _).set (p := ⟨wc.heap.size, 1, none⟩) (by have := hfc.size; show _ ≤ wc.heap.size; omega) _⟩
          | exact ⟨wb.heap.size, rfl, rfl, rfl, blk_set (blk_set hn 0 _) 1 _, (hfd.set (p := ⟨wb.heap.size, 0, none⟩) (by have := hfb.size; show _ ≤ wb.heap.size; omega) _).set (p := ⟨wb.heap.size, 1, none⟩) (by have := hfb.size; show _ ≤ wb.heap.size; omega) _⟩
          | exact ⟨wa.heap.size, rfl, rfl, rfl, blk_set (blk_set hn 0 _) 1 _, (hfd.set (p := ⟨wa.heap.size, 0, none⟩) (by have := hfa.size; show _ ≤ wa.heap.size; omega) _).set (p := ⟨wa.heap.size, 1, none⟩) (by have := hfa.size; show _ ≤ wa.heap.size; omega) _⟩
          | exact ⟨w6.heap.size, rfl, rfl, rfl, blk_set (blk_set hn 0 _) 1 _, (hfd.set (p := ⟨w6.heap.size, 0, none⟩) (Nat.le_refl _) _).set (p := ⟨w6.heap.size, 1, none⟩) (Nat.le_refl _) _⟩
    case rest =>
    obtain ⟨g12, rfl, rfl, rfl, hb12, hf12⟩ := hcut
    obtain ⟨w7, hw7⟩ : ∃ w7, w7 = wc := ⟨_, rfl⟩
    subst hw7
    clear k1
    have k1 := HPC.out w7 hf12.out
    obtain ⟨x0, x1⟩ := cells2 (hf12.out.blk hb9.out)
    obtain ⟨y0, y1⟩ := cells2 hb12.out
    have HFW : Hid (Fr w w7) := (HF0.out.trans hf9.out).trans hf12.out
    by_cases hc : den ≤ a + b
    · have gE : decide ((a : Int) ≥ (E : Int)) = true := decide_eq_true (by have := HEE.out.1; omega)
      have gE' : decide (E ≤ a) = true := decide_eq_true (by have := HEE.out.1; omega)
      have eM : S + 1 = M := by have := HEE.out.2; rw [if_pos hc] at this; omega
      have wM3 : IntKind.u64.wrap ((S : Int) + 1) = (M : Int) := by rw [wM1]; omega
      clear wM1 hc eM
      go_wp2_with fail
      go_ret2
      exact ⟨rfl, HFW.out⟩
    · have gE : decide ((a : Int) ≥ (E : Int)) = false := decide_eq_false (by have := HEE.out.1; omega)
      have gE' : decide (E ≤ a) = false := decide_eq_false (by have := HEE.out.1; omega)
      obtain rfl : S = M := by have := HEE.out.2; rw [if_neg hc] at this; omega
      clear hc
      go_wp2_with fail
      go_ret2
      exact ⟨rfl, HFW.out⟩
end Go.Proofs.YthjimnmgbcckjaaGreat
