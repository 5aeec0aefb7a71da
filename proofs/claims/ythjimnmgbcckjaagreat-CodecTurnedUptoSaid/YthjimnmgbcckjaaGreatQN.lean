/- Parts of this proof, one behind the other: Rf1, Rf2, Rf3, Rf4, Rf5. -/
import Derived.Deep.RegionHeld3
import Derived.Test.YthjimnmgbcckjaaGreatQJ
namespace Go.Proofs.YthjimnmgbcckjaaGreat
set_option maxRecDepth 100000
open Go.RowKit Go.Inc Go.Run
attribute [local go_sem] run_store_float

set_option maxHeartbeats 1000000 in
theorem r3rising_calls (L : List Int) (A : Option Addr) (n c : Nat) (hn : n = L.length) (hl : n ≤ 4294967296) (w : World) (hr : RdC w A (L.map uv)) : Calls Tryz.prog 95 #[.slice A n c] w fun e w' => e = .returned (.bool (decide (Rise L))) ∧ Fr w w' := by
  have HR := Lib.hid hr
  have HN := Lib.hid hn
  clear hr hn
  go_enter Tryz.func95, Tryz.ntmps95
  go_wp2_with fail
  go_loopw [3] (fun v wr => ∃ i : Nat, v = .int .i64 i ∧ 1 ≤ i ∧ (i ≤ n ∨ i = 1) ∧ Hid (∀ j, j + 1 < i → ky L j < ky L (j + 1)) ∧ Hid (Fr w wr)) (fun v _ => n - (intOf v).toNat)
  case atStart => exact ⟨1, rfl, by omega, .inr rfl, fun j h => by omega, Fr.refl _⟩
  case round =>
    obtain ⟨i, rfl, h1, hin, hs, hf⟩ := hrel
    rcases Nat.lt_or_ge i n with hlt | hge
    · have g1 : decide (i < n) = true := decide_eq_true hlt
      have g1' : (i : Int) < (n : Int) := by omega
      obtain ⟨b, off, hA, hc⟩ := rdc_ky (HR.out.fr hf.out) (by have := HN.out; omega)
      subst hA
      obtain ⟨j, rfl⟩ : ∃ j, i = j + 1 := ⟨i - 1, by omega⟩
      have y0 := hc (j + 1) (by have := HN.out; omega)
      have y1 := hc j (by have := HN.out; omega)
      have wj : IntKind.i64.wrap ((j : Int) + 1 - 1) = (j : Int) := by rw [wrap_i64_in _ (by omega) (by omega)]; omega
      have wj' : IntKind.i64.wrap (j : Int) = (j : Int) := wrap_i64_in _ (by omega) (by omega)
      have wi : IntKind.i64.wrap ((j : Int) + 1 + 1) = (j : Int) + 1 + 1 := wrap_i64_in _ (by omega) (by omega)
      have jn : (j : Int) < (n : Int) := by omega
      obtain ⟨x, hx⟩ : ∃ x, ky L (j + 1) = x := ⟨_, rfl⟩
      obtain ⟨y, hy⟩ : ∃ y, ky L j = y := ⟨_, rfl⟩
      rw [hx] at y0
      rw [hy] at y1
      have HX := Lib.hid hx
      have HY := Lib.hid hy
      clear hc hx hy hin
      by_cases hk : x ≤ y
      · have d1 : decide (x ≤ y) = true := decide_eq_true hk
        have hp : Hid (decide (Rise L) = false) := decide_eq_false (fun h => by
          have := rise_lt h (show j < j + 1 by omega) (by have := HN.out; omega)
          rw [HX.out, HY.out] at this; omega)
        clear hk
        go_wp2_with fail
        go_quiet (fail)
        go_wp2_with fail
        go_ret
        exact ⟨by rw [hp.out]; rfl, hf.out.drewN _⟩
      · have d1 : decide (x ≤ y) = false := decide_eq_false hk
        have hs2 : Hid (∀ j', j' + 1 < j + 1 + 1 → ky L j' < ky L (j' + 1)) := by
          intro j' h
          rcases Nat.lt_or_ge j' j with h2 | h2
          · exact hs.out j' (by omega)
          · obtain rfl : j' = j := by omega
            rw [HX.out, HY.out]; omega
        clear hk
        go_wp2_with fail
        go_quiet (fail)
        go_wp2_with fail
        exact ⟨⟨j + 1 + 1, rfl, by omega, .inl (by omega), hs2.out, hf.out.drewN _⟩, by simp only [intOf]; omega⟩
    · have g1 : decide (i < n) = false := decide_eq_false (by omega)
      have hp : Hid (decide (Rise L) = true) := decide_eq_true (rise_iff.2 (fun a b hab hb => by
        have hstep : ∀ d, a + d < L.length → ky L a ≤ ky L (a + d) := by
          intro d
          induction d with
          | zero => intro _; exact Int.le_refl _
          | succ d ih =>
            intro hd
            have := ih (by omega)
            have := hs.out (a + d) (by have := HN.out; omega)
            rw [show a + (d + 1) = a + d + 1 by omega]
            omega
        have h2 := hstep (b - 1 - a) (by omega)
        have h3 := hs.out (b - 1) (by have := HN.out; omega)
        rw [show a + (b - 1 - a) = b - 1 by omega] at h2
        rw [show b - 1 + 1 = b by omega] at h3
        omega))
      clear hin
      go_wp2_with fail
      go_ret
      exact ⟨by rw [hp.out]; rfl, hf.out⟩

set_option maxHeartbeats 1000000 in
theorem r3of_calls (E : List Ent) (A : Option Addr) (n c : Nat) (hn : n = E.length) (hl : n ≤ 268435456) (base : Nat) (w : World) (hb : base ≤ w.heap.size) (hwb : w.heap.size ≤ base) (hr : RdC w A (E.flatMap encells)) :
    Calls Tryz.prog 68 #[.slice A n c] w fun e w' => ∃ A' c', e = .returned (.slice A' n c') ∧ Own w' base 50 1 A' n c' ((keysE E).map uv) ∧ Fr w w' := by
  have HR := Lib.hid hr
  have HN := Lib.hid hn
  have HB := Lib.hid hb
  have HWB := Lib.hid hwb
  clear hr hn hb hwb
  go_enter Tryz.func68, Tryz.ntmps68
  go_wp2_with fail
  go_loopw [3, 4] (fun v3 v4 wr => ∃ (i : Nat) (A' : Option Addr) (c' : Nat), v4 = .int .i64 i ∧ v3 = .slice A' i c' ∧ i ≤ n ∧ Hid (Own wr base 50 1 A' i c' (((keysE E).take i).map uv)) ∧ Hid (Fr w wr)) (fun _ v4 _ => n - (intOf v4).toNat)
  case atStart => exact ⟨0, some ⟨w.heap.size, 0, none⟩, 0, rfl, rfl, by omega, Own.of_blk (Blk.new w [] _) HB.out rfl (by omega), (Fr.refl w).alloc _⟩
  case round =>
    obtain ⟨i, A', c', rfl, rfl, hin, ho, hf⟩ := hrel
    rcases Nat.lt_or_ge i n with hlt | hge
    · have g1 : decide (i < n) = true := decide_eq_true hlt
      have g1' : (i : Int) < (n : Int) := by omega
      have hiE : i < E.length := by have := HN.out; omega
      obtain ⟨b, off, hA, hc⟩ := rdc_ent (HR.out.fr hf.out) (by omega)
      subst hA
      obtain ⟨y0, _, _⟩ := hc i hiE
      obtain ⟨x, hx⟩ : ∃ x, E[i].key = x := ⟨_, rfl⟩
      rw [hx] at y0
      have HX : Hid ((keysE E).take (i + 1) = (keysE E).take i ++ [x]) := by
        rw [Hid, List.take_add_one]; unfold keysE; simp [hiE, hx]
      have hown0 := ho.out.fr ((Fr.refl wr).alloc (.cells #[.int .u64 x] 50))
      have HO := Lib.hid hown0
      have HBW : Hid (base ≤ wr.heap.size) := Nat.le_trans HB.out hf.out.size
      have wi : IntKind.i64.wrap ((i : Int) + 1) = (i : Int) + 1 := wrap_i64_in _ (by omega) (by omega)
      clear hc hx hown0
      go_wp2_with (at_builtin; refine gate ?_)
      refine gate_app rfl _ _ 57 rfl 50 (.int .u64 0) 1 8 Tryz.underlying57 info_u64r rfl (by omega) (by omega) base A' i c' _ (some ⟨wr.heap.size, 0, none⟩) 1 1 [.int .u64 x] (by rfl) (by rfl)
        HO.out rfl (RdC.of_blk (heap_alloc_new wr _)) (by intro u hu; simp at hu; subst hu; rfl) (by omega) (by have := HBW.out; simp; omega) ?_
      intro A3 c3 w3 hown3 hgr hat
      have HF3 : Hid (Fr w w3) := hf.out.mv ((Mv.of_fr (S := fun k => ablk A' = some k) ((Fr.refl wr).alloc _)).grown hgr.out (fun k hk => .inl hk)) (fun k hk => Nat.le_trans HWB.out (ho.out.lt k hk).1)
      clear hgr hat
      go_wp2_with fail
      exact ⟨⟨i + 1, A3, c3, rfl, rfl, by omega, by have h9 := hown3.out; rw [Hid, HX.out, List.map_append]; exact h9, HF3.out⟩, by simp only [intOf]; omega⟩
    · obtain rfl : i = n := by omega
      have g1 : decide (i < i) = false := by simp
      have HT : Hid ((keysE E).take i = keysE E) := List.take_of_length_le (by rw [keysE_len]; have := HN.out; omega)
      go_wp2_with fail
      go_ret
      exact ⟨A', c', rfl, by have h9 := ho.out; rw [HT.out] at h9; exact h9, hf.out⟩

set_option maxHeartbeats 1000000 in
theorem r8firsts_calls (S : List Seg) (A : Option Addr) (n c : Nat) (hn : n = S.length) (hl : n ≤ 268435456) (base : Nat) (w : World) (hb : base ≤ w.heap.size) (hwb : w.heap.size ≤ base) (hr : RdC w A (S.flatMap sgcells)) :
    Calls Tryz.prog 99 #[.slice A n c] w fun e w' => ∃ A' c', e = .returned (.slice A' n c') ∧ Own w' base 50 1 A' n c' ((firstsOf S).map uv) ∧ Fr w w' := by
  have HR := Lib.hid hr
  have HN := Lib.hid hn
  have HB := Lib.hid hb
  have HWB := Lib.hid hwb
  clear hr hn hb hwb
  go_enter Tryz.func99, Tryz.ntmps99
  go_wp2_with fail
  go_loopw [3, 4] (fun v3 v4 wr => ∃ (i : Nat) (A' : Option Addr) (c' : Nat), v4 = .int .i64 i ∧ v3 = .slice A' i c' ∧ i ≤ n ∧ Hid (Own wr base 50 1 A' i c' (((firstsOf S).take i).map uv)) ∧ Hid (Fr w wr)) (fun _ v4 _ => n - (intOf v4).toNat)
  case atStart => exact ⟨0, some ⟨w.heap.size, 0, none⟩, 0, rfl, rfl, by omega, Own.of_blk (Blk.new w [] _) HB.out rfl (by omega), (Fr.refl w).alloc _⟩
  case round =>
    obtain ⟨i, A', c', rfl, rfl, hin, ho, hf⟩ := hrel
    rcases Nat.lt_or_ge i n with hlt | hge
    · have g1 : decide (i < n) = true := decide_eq_true hlt
      have g1' : (i : Int) < (n : Int) := by omega
      have hiE : i < S.length := by have := HN.out; omega
      obtain ⟨b, off, hA, hc⟩ := rdc_seg (HR.out.fr hf.out) (by omega)
      subst hA
      obtain ⟨y0, _⟩ := hc i hiE
      obtain ⟨x, hx⟩ : ∃ x, S[i].first = x := ⟨_, rfl⟩
      rw [hx] at y0
      have HX : Hid ((firstsOf S).take (i + 1) = (firstsOf S).take i ++ [x]) := by
        rw [Hid, List.take_add_one]; unfold firstsOf; simp [hiE, hx]
      have hown0 := ho.out.fr ((Fr.refl wr).alloc (.cells #[.int .u64 x] 50))
      have HO := Lib.hid hown0
      have HBW : Hid (base ≤ wr.heap.size) := Nat.le_trans HB.out hf.out.size
      have wi : IntKind.i64.wrap ((i : Int) + 1) = (i : Int) + 1 := wrap_i64_in _ (by omega) (by omega)
      clear hc hx hown0
      go_wp2_with (at_builtin; refine gate ?_)
      refine gate_app rfl _ _ 57 rfl 50 (.int .u64 0) 1 8 Tryz.underlying57 info_u64r rfl (by omega) (by omega) base A' i c' _ (some ⟨wr.heap.size, 0, none⟩) 1 1 [.int .u64 x] (by rfl) (by rfl)
        HO.out rfl (RdC.of_blk (heap_alloc_new wr _)) (by intro u hu; simp at hu; subst hu; rfl) (by omega) (by have := HBW.out; simp; omega) ?_
      intro A3 c3 w3 hown3 hgr hat
      have HF3 : Hid (Fr w w3) := hf.out.mv ((Mv.of_fr (S := fun k => ablk A' = some k) ((Fr.refl wr).alloc _)).grown hgr.out (fun k hk => .inl hk)) (fun k hk => Nat.le_trans HWB.out (ho.out.lt k hk).1)
      clear hgr hat
      go_wp2_with fail
      exact ⟨⟨i + 1, A3, c3, rfl, rfl, by omega, by have h9 := hown3.out; rw [Hid, HX.out, List.map_append]; exact h9, HF3.out⟩, by simp only [intOf]; omega⟩
    · obtain rfl : i = n := by omega
      have g1 : decide (i < i) = false := by simp
      have HT : Hid ((firstsOf S).take i = firstsOf S) := List.take_of_length_le (by rw [firsts_len]; have := HN.out; omega)
      go_wp2_with fail
      go_ret
      exact ⟨A', c', rfl, by have h9 := ho.out; rw [HT.out] at h9; exact h9, hf.out⟩
end Go.Proofs.YthjimnmgbcckjaaGreat
namespace Go.Proofs.YthjimnmgbcckjaaGreat
set_option maxRecDepth 100000
open Go.RowKit Go.Inc Go.Run
attribute [local go_sem] run_store_float

theorem r2along_calls (s inter : Nat) (far : Int) (hs : s ≤ 4611686018427387904) (hi : Flo.fin inter) (h0 : 0 ≤ far) (h1 : far < 18446744073709551616) (w : World) :
    Calls Tryz.prog 60 #[.float .f64 s, .int .u64 far, .float .f64 inter] w fun e w' => e = .returned (.float .f64 (Flo.alongW s far inter)) ∧ w' = w := by
  obtain ⟨p, m1, a1, _⟩ := Flo.along_word hs hi h0 h1
  obtain ⟨Fw, hFw⟩ : ∃ F, floatOfInt .f64 far = F := ⟨_, rfl⟩
  have e1 : Ieee.double.mul s Fw = some p := by rw [← hFw]; exact m1
  obtain ⟨R, hR⟩ : ∃ R, Flo.alongW s far inter = R := ⟨_, rfl⟩
  rw [hR] at a1 ⊢
  have wm := fun w => run_float_arith (P := Tryz.prog) w .mul 63 .f64 s Fw p e1
  have wa := fun w => run_float_arith (P := Tryz.prog) w .add 63 .f64 p inter R a1
  clear m1 a1 e1 hR hs hi h0 h1
  go_enter Tryz.func60, Tryz.ntmps60
  go_wp2_with fail
  go_ret
  exact ⟨rfl, rfl⟩

theorem ge0 {x : Nat} (hx : x ≤ 4611686018427387904) : (FloatKind.f64.format.order x 0 == some .gt || FloatKind.f64.format.order x 0 == some .eq) = true := by
  have h : FloatKind.f64.format.order x 0 = some (compare x 0) := order_pos (by omega) (by omega)
  rw [h]
  rcases Nat.eq_zero_or_pos x with rfl | h2
  · rfl
  · rw [Nat.compare_eq_gt.2 h2]; rfl
theorem gt2_of {x : Nat} (h1 : ¬ x ≤ 4611686018427387904) (h2 : x < 9223372036854775808) (hg : (FloatKind.f64.format.order x 0 == some .gt || FloatKind.f64.format.order x 0 == some .eq) = true) : (FloatKind.f64.format.order x 4611686018427387904 == some .gt) = true := by
  rcases Nat.lt_or_ge 9218868437227405312 x with h3 | h3
  · exfalso
    have h4 : FloatKind.f64.format.order x 0 = none := Flo.order_nan (.inl (fun h => by unfold Flo.num at h; omega))
    rw [h4] at hg; cases hg
  · have h : FloatKind.f64.format.order x 4611686018427387904 = some (compare x 4611686018427387904) := order_pos h3 (by omega)
    rw [h, Nat.compare_eq_gt.2 (by omega)]; rfl
theorem fin_iff {x : Nat} : Go.Inc.fin x = true ↔ Flo.fin x := by
  unfold Go.Inc.fin Go.Inc.infR Flo.fin
  exact decide_eq_true_iff

set_option maxHeartbeats 1000000 in
theorem r7check_calls (s : Seg) (hs : SegW s) (w : World) : Calls Tryz.prog 58 #[segVal s] w fun e w' => e = .returned (.int .i64 (chk s)) ∧ Fr w w' := by
  obtain ⟨s1, s2⟩ := hs
  obtain ⟨sf, sl, it, fr, up⟩ := s
  dsimp only at s1 s2
  have hb := heap_alloc_new w (.cells #[.int .u64 sf, .float .f64 sl, .float .f64 it, .int .i64 fr, .int .i64 up] 65)
  obtain ⟨x0, x1, x2, x3, x4⟩ := cells5 hb
  have HFR := Lib.hid ((Fr.refl w).alloc (.cells #[.int .u64 sf, .float .f64 sl, .float .f64 it, .int .i64 fr, .int .i64 up] 65))
  have htb := tobits_run
  clear hb
  unfold segVal
  dsimp only
  by_cases c1 : fr < 0
  · have hp : Hid (chk ⟨sf, sl, it, fr, up⟩ = 70) := by rw [Hid]; unfold chk; dsimp only; rw [if_pos (.inl c1)]
    have d1 : decide (fr < 0) = true := decide_eq_true c1
    clear s1 s2
    go_enter Tryz.func58, Tryz.ntmps58
    go_wp2_with fail
    go_ret
    exact ⟨by rw [hp.out]; rfl, HFR.out⟩
  · have d1 : decide (fr < 0) = false := decide_eq_false c1
    by_cases c2 : up ≤ fr
    · have hp : Hid (chk ⟨sf, sl, it, fr, up⟩ = 70) := by rw [Hid]; unfold chk; dsimp only; rw [if_pos (.inr (.inl c2))]
      have d2 : decide (up ≤ fr) = true := decide_eq_true c2
      clear s1 s2
      go_enter Tryz.func58, Tryz.ntmps58
      go_wp2_with fail
      go_ret
      exact ⟨by rw [hp.out]; rfl, HFR.out⟩
    · have d2 : decide (up ≤ fr) = false := decide_eq_false c2
      by_cases c3 : up > 4294967296
      · have hp : Hid (chk ⟨sf, sl, it, fr, up⟩ = 70) := by rw [Hid]; unfold chk; dsimp only; rw [if_pos (.inr (.inr c3))]
        have d3 : decide (up > 4294967296) = true := decide_eq_true c3
        clear s1 s2
        go_enter Tryz.func58, Tryz.ntmps58
        go_wp2_with fail
        go_ret
        exact ⟨by rw [hp.out]; rfl, HFR.out⟩
      · have d3 : decide (up > 4294967296) = false := decide_eq_false c3
        have hp : Hid (chk ⟨sf, sl, it, fr, up⟩ = if ¬ sl ≤ 4611686018427387904 then 71 else if ¬ Flo.fin it then 72 else 0) := by
          rw [Hid]; unfold chk; dsimp only; rw [if_neg (by rintro (h | h | h) <;> omega)]
        by_cases c4 : sl ≤ 4611686018427387904
        · have g1 := ge0 c4
          have g2 : decide ((sl : Int) ≥ 9223372036854775808) = false := decide_eq_false (by omega)
          have g2' : decide (9223372036854775808 ≤ sl) = false := decide_eq_false (by omega)
          have g3 : (FloatKind.f64.format.order sl 4611686018427387904 == some .gt) = false := by
            have h : FloatKind.f64.format.order sl 4611686018427387904 = some (compare sl 4611686018427387904) := order_pos (by omega) (by omega)
            rw [h]
            have : compare sl 4611686018427387904 ≠ .gt := fun h2 => by have := Nat.compare_eq_gt.1 h2; omega
            simpa using this
          by_cases c5 : Flo.fin it
          · have hz := fun w => run_sub_fin (P := Tryz.prog) 63 it (fin_iff.2 c5) w
            have hq : Hid (chk ⟨sf, sl, it, fr, up⟩ = 0) := by rw [Hid, hp.out, if_neg (fun h => h c4), if_neg (fun h => h c5)]
            have zz := zero_eq_zero
            clear s1 s2 c4 c5 c1 c2 c3
            go_enter Tryz.func58, Tryz.ntmps58
            go_wp2_with fail
            go_ret
            exact ⟨by rw [hq.out]; rfl, HFR.out⟩
          · have hf : Go.Inc.fin it = false := by rw [Bool.eq_false_iff]; exact fun h => c5 (fin_iff.1 h)
            have hz := fun w => run_sub_not (P := Tryz.prog) 63 it hf w
            have hq : Hid (chk ⟨sf, sl, it, fr, up⟩ = 72) := by rw [Hid, hp.out, if_neg (fun h => h c4), if_pos c5]
            have zz := fun W => nan_ne_zero (nanv W it) (nanv_nan W it)
            clear s1 s2 c4 c5 c1 c2 c3 hf
            go_enter Tryz.func58, Tryz.ntmps58
            go_wp2_with fail
            go_ret
            exact ⟨by rw [hq.out]; rfl, HFR.out.drew⟩
        · have hq : Hid (chk ⟨sf, sl, it, fr, up⟩ = 71) := by rw [Hid, hp.out, if_pos c4]
          cases hg : (FloatKind.f64.format.order sl 0 == some .gt || FloatKind.f64.format.order sl 0 == some .eq) with
          | false =>
            clear s1 s2 c4 c1 c2 c3
            go_enter Tryz.func58, Tryz.ntmps58
            go_wp2_with fail
            go_ret
            exact ⟨by rw [hq.out]; rfl, HFR.out⟩
          | true =>
            by_cases c6 : 9223372036854775808 ≤ sl
            · have g2 : decide ((sl : Int) ≥ 9223372036854775808) = true := decide_eq_true (by omega)
              have g2' : decide (9223372036854775808 ≤ sl) = true := decide_eq_true (by omega)
              clear s1 s2 c4 c1 c2 c3
              go_enter Tryz.func58, Tryz.ntmps58
              go_wp2_with fail
              go_ret
              exact ⟨by rw [hq.out]; rfl, HFR.out⟩
            · have g2 : decide ((sl : Int) ≥ 9223372036854775808) = false := decide_eq_false (by omega)
              have g2' : decide (9223372036854775808 ≤ sl) = false := decide_eq_false (by omega)
              have g3 := gt2_of c4 (by omega) hg
              clear s1 s2 c4 c1 c2 c3
              go_enter Tryz.func58, Tryz.ntmps58
              go_wp2_with fail
              go_ret
              exact ⟨by rw [hq.out]; rfl, HFR.out⟩
end Go.Proofs.YthjimnmgbcckjaaGreat
namespace Go.Flo
theorem trunc_exact {x : Nat} (h : fin x) : srv ((sv x).tdiv (U : Int) * (U : Int)) 0 = (sv x).tdiv (U : Int) * (U : Int) := by
  have hU := U_pos
  obtain ⟨r, hr⟩ : ∃ r, x % 9223372036854775808 = r := ⟨_, rfl⟩
  unfold fin at h
  rw [hr] at h
  obtain ⟨a, ha⟩ : ∃ a, rv r = a := ⟨_, rfl⟩
  obtain ⟨m, hm⟩ : ∃ m, a / U = m := ⟨_, rfl⟩
  have key : rv (rnd (m * U) 0) = m * U := by
    rcases whole_or_small r with h1 | h1
    · rw [ha] at h1
      have e1 : m * U = a := by rw [← hm]; exact Nat.div_mul_cancel h1
      rw [e1]
      have e2 := rndU_rv r 0
      rw [ha, Nat.pow_zero, Nat.mul_one] at e2
      unfold rnd
      rw [e2, Nat.min_eq_left (Nat.le_of_lt h), ha]
    · rw [ha] at h1
      refine int_exact ?_
      have : m < 4503599627370496 := by rw [← hm]; exact (Nat.div_lt_iff_lt_mul hU).2 h1
      omega
  have e3 : (sv x).tdiv (U : Int) = if (x / 9223372036854775808 % 2 == 1) then -(m : Int) else (m : Int) := by
    rw [sv_bool, hr, ha]
    split
    · rw [Int.neg_tdiv, ← Int.ofNat_tdiv, hm]
    · rw [← Int.ofNat_tdiv, hm]
  rw [e3]
  unfold srv
  have n1 : ((m : Int) * (U : Int)) = ((m * U : Nat) : Int) := by rw [Int.natCast_mul]
  split
  · rw [Int.neg_mul, n1]
    rw [Int.natAbs_neg, Int.natAbs_natCast, key]
    split
    · rfl
    · rename_i h2
      have : m * U = 0 := by omega
      rw [this]; rfl
  · rw [n1, Int.natAbs_natCast, key, if_neg (by omega)]
theorem floor_adj (v : Int) {u : Int} (hu : 0 < u) : v / u = if v < v.tdiv u * u then v.tdiv u - 1 else v.tdiv u := by
  have huniq : ∀ q : Int, q * u ≤ v → v < (q + 1) * u → v / u = q := fun q h1 h2 => by
    have a1 := (Int.le_ediv_iff_mul_le hu).2 h1
    have a2 := (Int.ediv_lt_iff_lt_mul hu).2 h2
    omega
  rcases Int.le_total 0 v with h | h
  · rw [Int.tdiv_eq_ediv_of_nonneg h, if_neg (by have := Int.ediv_mul_le v (b := u) (by omega); omega)]
  · obtain ⟨a, rfl⟩ : ∃ a, v = -a := ⟨-v, by omega⟩
    rw [Int.neg_tdiv, Int.tdiv_eq_ediv_of_nonneg (by omega)]
    have h1 := Int.ediv_mul_le a (b := u) (by omega)
    have h2 := Int.lt_ediv_add_one_mul_self a hu
    have e1 : -(a / u) * u = -(a / u * u) := Int.neg_mul _ _
    split
    · rename_i h3
      refine huniq _ ?_ ?_
      · rw [Int.sub_mul, e1]; rw [Int.add_mul] at h2; omega
      · rw [Int.sub_add_cancel]; exact h3
    · rename_i h3
      refine huniq _ (by omega) ?_
      rw [Int.add_mul]; omega
end Go.Flo
namespace Go.Proofs.YthjimnmgbcckjaaGreat
set_option maxRecDepth 100000
open Go.RowKit Go.Inc Go.Run

set_option maxHeartbeats 2000000 in
theorem r2clamp_calls (x : Nat) (lo hi : Int) (_hx : x < 18446744073709551616) (hn : Flo.num x) (h1 : lo ≤ hi) (h2 : 0 ≤ lo) (h3 : hi ≤ 4611686018427387904) (w : World) :
    Calls Tryz.prog 59 #[.float .f64 x, .int .i64 lo, .int .i64 hi] w fun e w' => e = .returned (.int .i64 (Flo.clampV (Flo.sv x) lo hi)) ∧ w' = w := by
  have hU : (0 : Int) < (Flo.U : Int) := by have := Flo.U_pos; omega
  have oself : (FloatKind.f64.format.order x x != some .eq) = false := by
    have : FloatKind.f64.format.order x x = some (compare (Flo.sv x) (Flo.sv x)) := Flo.order_num hn hn
    rw [this, Int.compare_eq_eq.2 rfl]; rfl
  have o1 : FloatKind.f64.format.order x 14114281232179134464 = some (compare (Flo.sv x) (-(9223372036854775808 * (Flo.U : Int)))) := by
    show Ieee.double.order x 14114281232179134464 = _
    rw [Flo.order_num hn (by unfold Flo.num; decide), sv_m63]
  have o2 : FloatKind.f64.format.order x 4890909195324358656 = some (compare (Flo.sv x) (9223372036854775808 * (Flo.U : Int))) := by
    show Ieee.double.order x 4890909195324358656 = _
    rw [Flo.order_num hn (by unfold Flo.num; decide), sv_63]
  have d0 : decide (hi < lo) = false := decide_eq_false (by omega)
  have hinf : 9223372036854775808 * (Flo.U : Int) < (Flo.rv 9218868437227405312 : Int) := by
    have h := Flo.inf_big 63 (by decide)
    have e : ((Flo.U * 2 ^ 63 : Nat) : Int) = 9223372036854775808 * (Flo.U : Int) := by rw [Int.natCast_mul, Int.mul_comm]; rfl
    rw [← e]
    exact Int.ofNat_lt.2 h
  obtain ⟨v, hv⟩ : ∃ v, Flo.sv x = v := ⟨_, rfl⟩
  rw [hv] at o1 o2
  by_cases c2 : 9223372036854775808 * (Flo.U : Int) ≤ v
  · have f2 : (FloatKind.f64.format.order x 4890909195324358656 == some .gt || FloatKind.f64.format.order x 4890909195324358656 == some .eq) = true := by
      rw [o2]
      rcases Int.lt_or_le (9223372036854775808 * (Flo.U : Int)) v with h | h
      · rw [Int.compare_eq_gt.2 h]; rfl
      · rw [Int.compare_eq_eq.2 (Int.le_antisymm h c2)]; rfl
    have hp : Hid (Flo.clampV (Flo.sv x) lo hi = hi) := by
      rw [Hid, hv]; unfold Flo.clampV
      have := (Int.le_ediv_iff_mul_le (b := v) (a := 9223372036854775808) hU).2 c2
      omega
    clear o1 o2 hinf hv c2 hU
    go_enter Tryz.func59, Tryz.ntmps59
    go_wp2_with fail
    go_ret
    exact ⟨by rw [hp.out]; rfl, rfl⟩
  · have f2 : (FloatKind.f64.format.order x 4890909195324358656 == some .gt || FloatKind.f64.format.order x 4890909195324358656 == some .eq) = false := by
      rw [o2, Int.compare_eq_lt.2 (by omega)]; rfl
    by_cases c1 : v < -(9223372036854775808 * (Flo.U : Int))
    · have f1 : (FloatKind.f64.format.order x 14114281232179134464 == some .lt) = true := by rw [o1, Int.compare_eq_lt.2 c1]; rfl
      have hp : Hid (Flo.clampV (Flo.sv x) lo hi = lo) := by
        rw [Hid, hv]; unfold Flo.clampV
        have := (Int.ediv_lt_iff_lt_mul (b := -9223372036854775808) hU).2 (by rw [Int.neg_mul]; exact c1)
        omega
      clear o1 o2 hinf hv c1 c2 hU
      go_enter Tryz.func59, Tryz.ntmps59
      go_wp2_with fail
      go_ret
      exact ⟨by rw [hp.out]; rfl, rfl⟩
    · have f1 : (FloatKind.f64.format.order x 14114281232179134464 == some .lt) = false := by
        rw [o1]
        have : compare v (-(9223372036854775808 * (Flo.U : Int))) ≠ .lt := fun h => c1 (Int.compare_eq_lt.1 h)
        simpa using this
      have hfin : Flo.fin x := Flo.fin_of_sv hn (by rw [hv]; omega) (by rw [hv]; omega)
      have hex := Flo.trunc_exact hfin
      have hadj := Flo.floor_adj v hU
      rw [hv] at hex
      obtain ⟨n, hnn⟩ : ∃ n, v.tdiv (Flo.U : Int) = n := ⟨_, rfl⟩
      rw [hnn] at hex hadj
      obtain ⟨q, hq⟩ : ∃ q, v / (Flo.U : Int) = q := ⟨_, rfl⟩
      have q1 : -9223372036854775808 ≤ q := by rw [← hq]; exact (Int.le_ediv_iff_mul_le hU).2 (by rw [Int.neg_mul]; omega)
      have q2 : q < 9223372036854775808 := by rw [← hq]; exact (Int.ediv_lt_iff_lt_mul hU).2 (by omega)
      rw [hq] at hadj
      have hcv : floatToIntVal .f64 x .i64 = some n := by
        unfold floatToIntVal
        have e : (FloatKind.f64.decode x).toInt .zero = some n := by
          show (Ieee.double.read x).toInt .zero = _
          rw [Flo.toInt_zero hfin, hv, hnn]
        rw [e]
        simp only
        rw [if_pos]
        show -9223372036854775808 ≤ n ∧ n ≤ 9223372036854775807
        split at hadj
        · rename_i h5
          refine ⟨by omega, ?_⟩
          rcases Int.lt_or_le v 0 with h6 | h6
          · have h7 : v / (Flo.U : Int) < 0 := (Int.ediv_lt_iff_lt_mul hU).2 (by omega)
            rw [hq] at h7
            omega
          · have h7 := Int.tdiv_eq_ediv_of_nonneg (b := (Flo.U : Int)) h6
            rw [hnn, hq] at h7
            omega
        · omega
      obtain ⟨b1, b2, _⟩ := Flo.int_near n
      rw [hex] at b2
      have o3 : FloatKind.f64.format.order (floatOfInt .f64 n) x = some (compare (n * (Flo.U : Int)) v) := by
        show Ieee.double.order (Ieee.double.nearest (n < 0) n.natAbs 0) x = _
        rw [Flo.order_num b1 hn, b2, hv]
      have hcvt := fun w => run_convert_float_int (P := Tryz.prog) w 63 3 .f64 .i64 x n (by kernel_rfl) Tryz.underlying3 hcv
      have hp : Hid (Flo.clampV (Flo.sv x) lo hi = max lo (min hi q)) := by rw [Hid, hv]; unfold Flo.clampV; rw [hq]
      obtain ⟨F, hF⟩ : ∃ F, floatOfInt .f64 n = F := ⟨_, rfl⟩
      rw [hF] at o3
      have hF' := hF
      by_cases c3 : v < n * (Flo.U : Int)
      · have f3 : (FloatKind.f64.format.order F x == some .gt) = true := by rw [o3, Int.compare_eq_gt.2 c3]; rfl
        rw [if_pos c3] at hadj
        subst hadj
        have wn : IntKind.i64.wrap (n - 1) = n - 1 := wrap_i64_in _ (by omega) (by omega)
        clear o1 o2 o3 hinf hv c1 c2 c3 hU hex hnn hcv b1 b2 hq hF'
        go_enter Tryz.func59, Tryz.ntmps59
        go_wp2_with fail
        go_ret
        exact ⟨by rw [hp.out]; rfl, rfl⟩
      · have f3 : (FloatKind.f64.format.order F x == some .gt) = false := by
          rw [o3]
          have : compare (n * (Flo.U : Int)) v ≠ .gt := fun h => c3 (Int.compare_eq_gt.1 h)
          simpa using this
        rw [if_neg c3] at hadj
        subst hadj
        clear o1 o2 o3 hinf hv c1 c2 c3 hU hex hnn hcv b1 b2 hq hF'
        go_enter Tryz.func59, Tryz.ntmps59
        go_wp2_with fail
        go_ret
        exact ⟨by rw [hp.out]; rfl, rfl⟩
end Go.Proofs.YthjimnmgbcckjaaGreat
namespace Go.Proofs.YthjimnmgbcckjaaGreat
set_option maxRecDepth 100000
open Go.RowKit Go.Inc Go.Run

set_option maxHeartbeats 2000000 in
theorem r7guess_calls (s : Seg) (q : Int) (hs : SegFit s) (hk : SegOk s) (hq : 0 ≤ q ∧ q < 18446744073709551616) (w : World) :
    Calls Tryz.prog 22 #[segVal s, .int .u64 q] w fun e w' => e = .returned (.int .i64 (guessV s q)) ∧ Fr w w' := by
  have MC := fun w => r7check_calls s hs.1 w
  rw [chk_ok.2 hk] at MC
  obtain ⟨hsw, hf0, hf1⟩ := hs
  obtain ⟨k1, k2, k3, k4, k5⟩ := hk
  have hfar : 0 ≤ max q s.first - s.first ∧ max q s.first - s.first < 18446744073709551616 := by omega
  have AL := fun w => r2along_calls s.slope s.inter (max q s.first - s.first) k4 k5 hfar.1 hfar.2 w
  obtain ⟨p, _, _, a1, a2, a3⟩ := Flo.along_word k4 k5 hfar.1 hfar.2
  have CL := fun w => r2clamp_calls (Flo.alongW s.slope (max q s.first - s.first) s.inter) s.frm s.upto (by omega) a1 (by omega) k1 (by omega) w
  rw [a2] at CL
  have hp : Hid (guessV s q = Flo.clampV (Flo.alongV s.slope s.inter (max q s.first - s.first)) s.frm s.upto) := rfl
  obtain ⟨R, hR⟩ : ∃ R, Flo.clampV (Flo.alongV s.slope s.inter (max q s.first - s.first)) s.frm s.upto = R := ⟨_, rfl⟩
  obtain ⟨A, hA⟩ : ∃ A, Flo.alongW s.slope (max q s.first - s.first) s.inter = A := ⟨_, rfl⟩
  rw [hR] at CL hp
  rw [hA] at CL AL
  rw [hp.out]
  clear hR hA a1 a2 a3 hp hsw
  obtain ⟨sf, sl, it, fr, up⟩ := s
  dsimp only at *
  unfold segVal at *
  dsimp only at *
  have hb := heap_alloc_new w (.cells #[.int .u64 sf, .float .f64 sl, .float .f64 it, .int .i64 fr, .int .i64 up] 65)
  have HB := Lib.hid hb
  have HF := Lib.hid ((Fr.refl w).alloc (.cells #[.int .u64 sf, .float .f64 sl, .float .f64 it, .int .i64 fr, .int .i64 up] 65))
  obtain ⟨x0, x1, x2, x3, x4⟩ := cells5 hb
  by_cases hgt : q > sf
  · have e0 : max q sf - sf = q - sf := by omega
    rw [e0] at AL hfar
    have d0 : decide (q > sf) = true := decide_eq_true hgt
    have hw1 : IntKind.u64.wrap (q - sf) = q - sf := wrap_u64_in _ hfar.1 hfar.2
    have MCH := Lib.hid MC
    have ALH := Lib.hid AL
    have CLH := Lib.hid CL
    clear hb MC AL CL e0
    go_enter Tryz.func22, Tryz.ntmps22
    go_wp2_with fail
    refine (MCH.out _).mono ?_
    rintro e w2 ⟨rfl, hf2⟩
    obtain ⟨y0, y1, y2, y3, y4⟩ := cells5 (hf2.blk HB.out)
    have HF2 : Hid (Fr w w2) := HF.out.trans hf2
    clear x0 x1 x2 x3 x4 hf2
    go_wp2_with fail
    go_quiet (first | (go_at_call 60; exact Calls.quiet_of_same (ALH.out _)) | (go_at_call 59; exact Calls.quiet_of_same (CLH.out _)))
    go_wp2_with fail
    go_ret
    exact ⟨rfl, HF2.out.drewN _⟩
  · have e0 : max q sf - sf = 0 := by omega
    rw [e0] at AL hfar
    have d0 : decide (q > sf) = false := decide_eq_false hgt
    have MCH := Lib.hid MC
    have ALH := Lib.hid AL
    have CLH := Lib.hid CL
    clear hb MC AL CL e0
    go_enter Tryz.func22, Tryz.ntmps22
    go_wp2_with fail
    refine (MCH.out _).mono ?_
    rintro e w2 ⟨rfl, hf2⟩
    obtain ⟨y0, y1, y2, y3, y4⟩ := cells5 (hf2.blk HB.out)
    have HF2 : Hid (Fr w w2) := HF.out.trans hf2
    clear x0 x1 x2 x3 x4 hf2
    go_wp2_with fail
    go_quiet (first | (go_at_call 60; exact Calls.quiet_of_same (ALH.out _)) | (go_at_call 59; exact Calls.quiet_of_same (CLH.out _)))
    go_wp2_with fail
    go_ret
    exact ⟨rfl, HF2.out.drewN _⟩

set_option maxHeartbeats 4000000 in
theorem r7off_calls (s : Seg) (L : List Int) (A : Option Addr) (n c : Nat) (hs : SegFit s) (hk : SegOk s) (hn : n = L.length) (hR : Rise L) (hK : KeysOk L) (hlen : s.upto - s.frm = n) (hfirst : ky L 0 = s.first) (w : World) (hr : RdC w A (L.map uv)) :
    Calls Tryz.prog 98 #[segVal s, .slice A n c] w fun e w' => ∃ r, e = .returned (.tuple #[.int .i64 r, .int .i64 0]) ∧ IsOff s L n r ∧ Fr w w' := by
  have hb5 := And.intro hk.f0 (And.intro hk.ft hk.t1)
  have h0n : 0 < n := by omega
  have hln : n ≤ 4294967296 := by omega
  obtain ⟨b, off, hA, hc⟩ := rdc_ky hr (by omega)
  subst hA
  have MC := fun w => r7check_calls s hs.1 w
  rw [chk_ok.2 hk] at MC
  have GU := fun q hq w => r7guess_calls s q hs hk hq w
  have HGI : Hid (∀ q, s.frm ≤ guessV s q ∧ guessV s q ≤ s.upto) := fun q => guess_in hk q
  have HR := Lib.hid hr
  have HN := Lib.hid hn
  have HRI := Lib.hid hR
  have HK := Lib.hid hK
  have HC := Lib.hid hc
  have HFI := Lib.hid hfirst
  have MCH := Lib.hid MC
  have GUH := Lib.hid GU
  have hw1 : IntKind.i64.wrap (s.upto - s.frm) = (n : Int) := by rw [hlen]; exact wrap_i64_in _ (by omega) (by omega)
  have HB5 := Lib.hid hb5
  have HLEN := Lib.hid hlen
  have hb := heap_alloc_new w (.cells #[.int .u64 s.first, .float .f64 s.slope, .float .f64 s.inter, .int .i64 s.frm, .int .i64 s.upto] 65)
  have HB := Lib.hid hb
  have HF := Lib.hid ((Fr.refl w).alloc (.cells #[.int .u64 s.first, .float .f64 s.slope, .float .f64 s.inter, .int .i64 s.frm, .int .i64 s.upto] 65))
  obtain ⟨x0, x1, x2, x3, x4⟩ := cells5 hb
  have RIS : Hid (∀ w', Fr w w' → Calls Tryz.prog 95 #[.slice (some ⟨b, off, none⟩) n c] w' fun e w'' => e = .returned (.bool true) ∧ Fr w' w'') := by
    intro w' hf
    have h1 := r3rising_calls L (some ⟨b, off, none⟩) n c hn (by omega) w' (hr.fr hf)
    rw [decide_eq_true hR] at h1
    exact h1
  have HCC : Hid (∀ w', Fr (w.alloc (.cells #[.int .u64 s.first, .float .f64 s.slope, .float .f64 s.inter, .int .i64 s.frm, .int .i64 s.upto] 65)) w' → (w'.cell? ⟨w.heap.size, 0, none⟩ = some (.int .u64 s.first) ∧ w'.cell? ⟨w.heap.size, 1, none⟩ = some (.float .f64 s.slope) ∧ w'.cell? ⟨w.heap.size, 2, none⟩ = some (.float .f64 s.inter) ∧ w'.cell? ⟨w.heap.size, 3, none⟩ = some (.int .i64 s.frm) ∧ w'.cell? ⟨w.heap.size, 4, none⟩ = some (.int .i64 s.upto)) ∧ w'.cell? ⟨b, off, none⟩ = some (.int .u64 s.first)) := by
    intro w' hf
    refine ⟨cells5 (hf.blk hb), ?_⟩
    have h1 := (HF.out.trans hf).cell (hc 0 (by omega))
    rw [Nat.add_zero, hfirst] at h1
    exact h1
  clear hr hn hR hK hc hfirst MC GU hb5 hlen hb hs hk
  unfold segVal at *
  go_enter Tryz.func98, Tryz.ntmps98
  go_wp2_with fail
  obtain ⟨w1, hw1⟩ : ∃ w1, w1 = w.alloc (.cells #[.int .u64 s.first, .float .f64 s.slope, .float .f64 s.inter, .int .i64 s.frm, .int .i64 s.upto] 65) := ⟨_, rfl⟩
  rw [← hw1] at HB HF HCC ⊢
  clear hw1 x0 x1 x2 x3 x4
  refine (MCH.out _).mono ?_
  rintro e w2 ⟨rfl, hf2⟩
  have HF2 := Lib.hid hf2
  clear hf2
  obtain ⟨⟨y0, y1, y2, y3, y4⟩, yk⟩ := HCC.out w2 HF2.out
  have g00 : (0 : Int) < (n : Int) := by omega
  have HSS : Hid (∀ w', Fr w1 w' → (w'.cell? ⟨w.heap.size, 0, none⟩ = some (.int .u64 s.first) ∧ w'.cell? ⟨w.heap.size, 3, none⟩ = some (.int .i64 s.frm) ∧ w'.cell? ⟨w.heap.size, 4, none⟩ = some (.int .i64 s.upto)) ∧ w'.cell? ⟨b, off, none⟩ = some (.int .u64 s.first)) :=
    fun w' hf => ⟨⟨(HCC.out w' hf).1.1, (HCC.out w' hf).1.2.2.2.1, (HCC.out w' hf).1.2.2.2.2⟩, (HCC.out w' hf).2⟩
  go_wp2_with fail
  go_region_held3 (fun w' => (w'.cell? ⟨w.heap.size, 0, none⟩ = some (.int .u64 s.first) ∧ w'.cell? ⟨w.heap.size, 3, none⟩ = some (.int .i64 s.frm) ∧ w'.cell? ⟨w.heap.size, 4, none⟩ = some (.int .i64 s.upto)) ∧ w'.cell? ⟨b, off, none⟩ = some (.int .u64 s.first))
    (first | exact ⟨⟨y0, y3, y4⟩, yk⟩ | exact HSS.out _ hfa.out)
    (first | (go_at_call 95; refine (RIS.out _ (HF.out.trans HF2.out.drew)).mono ?_; rintro e wa ⟨rfl, hqa⟩; have hfa : Hid (Fr w1 wa) := HF2.out.drew.trans hqa))
  go_wp2_with fail
  go_loopw [7, 8] (fun vr v wr => ∃ (i : Nat) (r : Int), vr = .int .i64 r ∧ v = .int .i64 i ∧ i ≤ n ∧ r ≤ 8589934592 ∧ Hid (IsOff s L i r) ∧ Hid (Fr w1 wr)) (fun _ v _ => n - (intOf v).toNat)
  case atStart => exact ⟨0, 0, rfl, rfl, by omega, by omega, off_zero s L, hfa.out⟩
  case round =>
    obtain ⟨i, r, rfl, rfl, hin, hrb, hio, hf⟩ := hrel
    rcases Nat.lt_or_ge i n with hlt | hge
    · have g1 : decide (i < n) = true := decide_eq_true hlt
      have g0 : (i : Int) < (n : Int) := by omega
      have c1 := (HF.out.trans hf.out).cell (HC.out i (by have := HN.out; omega))
      obtain ⟨k, hk⟩ : ∃ k, ky L i = k := ⟨_, rfl⟩
      have hkb := HK.out.ky (show i < L.length by have := HN.out; omega)
      rw [hk] at c1 hkb
      obtain ⟨G, hG⟩ : ∃ G, guessV s k = G := ⟨_, rfl⟩
      have hgb := HGI.out k
      have GU := fun w => GUH.out k hkb w
      rw [hG] at hgb GU
      have GUK := Lib.hid GU
      have hb5 := HB5.out
      have hoff : Hid (offAt s L i = max (G - s.frm - i) (-(G - s.frm - i))) := by rw [Hid]; unfold offAt; rw [hk, hG]
      obtain ⟨D, hD⟩ : ∃ D, G - (s.frm + (i : Int)) = D := ⟨_, rfl⟩
      have hD' : G - s.frm - (i : Int) = D := by omega
      have wd0 : IntKind.i64.wrap (s.frm + (i : Int)) = s.frm + (i : Int) := wrap_i64_in _ (by omega) (by omega)
      have wd1 : IntKind.i64.wrap (G - (s.frm + (i : Int))) = D := by rw [hD]; exact wrap_i64_in _ (by omega) (by omega)
      have wd2 : IntKind.i64.wrap D = D := wrap_i64_in _ (by omega) (by omega)
      have wd3 : IntKind.i64.wrap (-D) = -D := wrap_i64_in _ (by omega) (by omega)
      have wi : IntKind.i64.wrap ((i : Int) + 1) = (i : Int) + 1 := wrap_i64_in _ (by omega) (by omega)
      have hDb : Hid (-4294967296 ≤ D ∧ D ≤ 4294967296) := by rw [Hid]; omega
      rw [hD'] at hoff
      have hrN := Lib.hid hrb
      obtain ⟨⟨y0, y1, y2, y3, y4⟩, _⟩ := HCC.out wr hf.out
      have HS5 : Hid (∀ w', Fr wr w' → (w'.cell? ⟨w.heap.size, 0, none⟩ = some (.int .u64 s.first) ∧ w'.cell? ⟨w.heap.size, 1, none⟩ = some (.float .f64 s.slope) ∧ w'.cell? ⟨w.heap.size, 2, none⟩ = some (.float .f64 s.inter) ∧ w'.cell? ⟨w.heap.size, 3, none⟩ = some (.int .i64 s.frm) ∧ w'.cell? ⟨w.heap.size, 4, none⟩ = some (.int .i64 s.upto)) ∧ w'.cell? ⟨b, off + i, none⟩ = some (.int .u64 k)) := fun w' h => ⟨⟨h.cell y0, h.cell y1, h.cell y2, h.cell y3, h.cell y4⟩, h.cell c1⟩
      have g00' : (0 : Int) ≤ (i : Int) := by omega
      clear hk hkb hG hgb GU hb5 hrb hD hD'
      go_wp2_with fail
      go_region_held3 (fun w' => (w'.cell? ⟨w.heap.size, 0, none⟩ = some (.int .u64 s.first) ∧ w'.cell? ⟨w.heap.size, 1, none⟩ = some (.float .f64 s.slope) ∧ w'.cell? ⟨w.heap.size, 2, none⟩ = some (.float .f64 s.inter) ∧ w'.cell? ⟨w.heap.size, 3, none⟩ = some (.int .i64 s.frm) ∧ w'.cell? ⟨w.heap.size, 4, none⟩ = some (.int .i64 s.upto)) ∧ w'.cell? ⟨b, off + i, none⟩ = some (.int .u64 k))
        (first | exact HS5.out _ hfb.out | exact HS5.out _ (Fr.refl _) | exact HS5.out _ (Fr.refl _).drew)
        (first | (go_at_call 22; refine (GUK.out _).mono ?_; rintro e wb ⟨rfl, hqb⟩; have hfb : Hid (Fr wr wb) := (Fr.refl wr).drew.trans hqb))
      go_wp2_with fail
      have hmax : (if (if r < D then D else r) < -D then -D else if r < D then D else r) = max r (offAt s L i) := by
        rw [hoff.out]
        have := hDb.out
        split <;> split <;> omega
      rw [hmax]
      refine ⟨⟨i + 1, max r (offAt s L i), rfl, rfl, by omega, ?_, hio.out.next, hf.out.trans hfb.out⟩, by simp only [intOf]; omega⟩
      rw [hoff.out]
      have := hDb.out; have := hrN.out
      omega
    · obtain rfl : i = n := by omega
      have g1 : decide (i < i) = false := by simp
      have hio2 := Lib.hid hio.out
      clear hio
      go_wp2_with fail
      go_ret2
      exact ⟨r, rfl, hio2.out, HF.out.trans hf.out⟩

end Go.Proofs.YthjimnmgbcckjaaGreat
namespace Go.Proofs.YthjimnmgbcckjaaGreat
set_option maxRecDepth 100000
open Go.RowKit Go.Inc Go.Run

set_option maxHeartbeats 1000000 in
theorem r8tiles_calls (S : List Seg) (A : Option Addr) (N c : Nat) (n : Int) (hN : N = S.length) (hl : N ≤ 4294967296) (hn : 0 ≤ n ∧ n ≤ 4294967296) (w : World) (hr : RdC w A (S.flatMap sgcells)) :
    Calls Tryz.prog 97 #[.slice A N c, .int .i64 n] w fun e w' => e = .returned (.bool (decide (0 < N) && tilesOk S 0 n)) ∧ Fr w w' := by
  have HR := Lib.hid hr
  have HN := Lib.hid hN
  clear hr hN
  go_enter Tryz.func97, Tryz.ntmps97
  go_wp2_with fail
  go_loopw [5, 6] (fun va v wr => ∃ (i : Nat) (at' : Int), va = .int .i64 at' ∧ v = .int .i64 i ∧ i ≤ N ∧ (0 ≤ at' ∧ at' ≤ n) ∧ Hid (tilesOk S 0 n = tilesOk (S.drop i) at' n) ∧ Hid (Fr w wr)) (fun _ v _ => N - (intOf v).toNat)
  case atStart => exact ⟨0, 0, rfl, rfl, by omega, by omega, by rw [Hid, List.drop_zero], Fr.refl _⟩
  case round =>
    obtain ⟨i, at', rfl, rfl, hin, hat, ht, hf⟩ := hrel
    rcases Nat.lt_or_ge i N with hlt | hge
    · have g1 : decide (i < N) = true := decide_eq_true hlt
      have g0 : (i : Int) < (N : Int) := by omega
      have hpos : Hid (decide (0 < N) = true) := decide_eq_true (by omega)
      obtain ⟨b, off, hA, hc⟩ := rdc_seg (HR.out.fr hf.out) (by have := HN.out; omega)
      subst hA
      have hiS : i < S.length := by have := HN.out; omega
      obtain ⟨x0, x1, x2, x3, x4⟩ := hc i hiS
      obtain ⟨s, hs⟩ : ∃ s, S[i] = s := ⟨_, rfl⟩
      rw [hs] at x0 x1 x2 x3 x4
      have ht2 := ht.out
      rw [List.drop_eq_getElem_cons hiS, hs] at ht2
      have HT : Hid (tilesOk S 0 n = (decide (s.frm = at' ∧ at' < s.upto ∧ s.upto ≤ n) && tilesOk (S.drop (i + 1)) s.upto n)) := ht2
      have wi : IntKind.i64.wrap ((i : Int) + 1) = (i : Int) + 1 := wrap_i64_in _ (by omega) (by omega)
      clear hc hs ht2 ht
      by_cases c1 : s.frm = at'
      · have e1 : (s.frm != at') = false := by simpa using c1
        by_cases c2 : at' < s.upto
        · have e2 : decide (s.upto ≤ at') = false := decide_eq_false (by omega)
          by_cases c3 : s.upto ≤ n
          · have e3 : decide (s.upto > n) = false := decide_eq_false (by omega)
            have HT2 : Hid (tilesOk S 0 n = tilesOk (S.drop (i + 1)) s.upto n) := by
              rw [Hid, HT.out, decide_eq_true ⟨c1, c2, c3⟩]; rfl
            have hup : 0 ≤ s.upto ∧ s.upto ≤ n := by omega
            clear HT c1
            go_wp2_with fail
            exact ⟨⟨i + 1, s.upto, rfl, rfl, by omega, hup, HT2.out, hf.out⟩, by simp only [intOf]; omega⟩
          · have e3 : decide (s.upto > n) = true := decide_eq_true (by omega)
            have HT2 : Hid (tilesOk S 0 n = false) := by rw [Hid, HT.out, decide_eq_false (fun h => c3 h.2.2)]; rfl
            clear HT c1
            go_wp2_with fail
            go_ret
            exact ⟨by rw [HT2.out, Bool.and_false]; rfl, hf.out⟩
        · have e2 : decide (s.upto ≤ at') = true := decide_eq_true (by omega)
          have HT2 : Hid (tilesOk S 0 n = false) := by rw [Hid, HT.out, decide_eq_false (fun h => c2 h.2.1)]; rfl
          clear HT c1
          go_wp2_with fail
          go_ret
          exact ⟨by rw [HT2.out, Bool.and_false]; rfl, hf.out⟩
      · have e1 : (s.frm != at') = true := by simpa using c1
        have HT2 : Hid (tilesOk S 0 n = false) := by rw [Hid, HT.out, decide_eq_false (fun h => c1 h.1)]; rfl
        clear HT
        go_wp2_with fail
        go_ret
        exact ⟨by rw [HT2.out, Bool.and_false]; rfl, hf.out⟩
    · obtain rfl : i = N := by omega
      have g1 : decide (i < i) = false := by simp
      have ht2 := ht.out
      rw [List.drop_of_length_le (by rw [← HN.out]; exact Nat.le_refl _)] at ht2
      have HT : Hid (tilesOk S 0 n = decide (at' = n)) := ht2
      clear ht ht2
      rcases Nat.eq_zero_or_pos i with hz | hz
      · have k1 : decide ((i : Int) > 0) = false := decide_eq_false (by omega)
        have k1' : decide (0 < i) = false := decide_eq_false (by omega)
        have HK := Lib.hid k1'
        clear hz
        go_wp2_with fail
        go_ret
        exact ⟨by rw [HK.out]; rfl, hf.out⟩
      · have k1 : decide ((i : Int) > 0) = true := decide_eq_true (by omega)
        have k1' : decide (0 < i) = true := decide_eq_true hz
        have HK := Lib.hid k1'
        by_cases hat2 : at' = n
        · have e1 : (at' == n) = true := by simpa using hat2
          have HA : Hid (decide (at' = n) = true) := decide_eq_true hat2
          clear hat2
          go_wp2_with fail
          go_ret
          exact ⟨by rw [HK.out, HT.out, HA.out]; rfl, hf.out⟩
        · have e1 : (at' == n) = false := by simpa using hat2
          have HA : Hid (decide (at' = n) = false) := decide_eq_false hat2
          clear hat2
          go_wp2_with fail
          go_ret
          exact ⟨by rw [HK.out, HT.out, HA.out]; rfl, hf.out⟩

set_option maxHeartbeats 1000000 in
theorem r8max_calls (e : Nat) (he : 2 ≤ e ∧ e ≤ 64) (n : Nat) (h1 : 1 ≤ n) (hn : n ≤ 4294967296) (w : World) : Calls Tryz.prog 96 #[.int .i64 (n : Nat), .int .i64 (e : Nat)] w fun r w' => r = .returned (.int .i64 (maxH e n : Nat)) ∧ Fr w w' := by
  have d1 : decide ((e : Int) < 2) = false := decide_eq_false (by omega)
  have d2 : decide ((e : Int) > 64) = false := decide_eq_false (by omega)
  have d3 : decide ((n : Int) < 1) = false := decide_eq_false (by omega)
  have d1' : decide (e < 2) = false := decide_eq_false (by omega)
  have d2' : decide (64 < e) = false := decide_eq_false (by omega)
  have d3' : decide (n < 1) = false := decide_eq_false (by omega)
  have w2 : IntKind.i64.wrap (2 * (e : Int)) = 2 * (e : Int) := wrap_i64_in _ (by omega) (by omega)
  have w21 : IntKind.i64.wrap (2 * (e : Int) - 1) = 2 * (e : Int) - 1 := wrap_i64_in _ (by omega) (by omega)
  have hne' : ¬ (e : Int) = 0 := by omega
  go_enter Tryz.func96, Tryz.ntmps96
  go_wp2_with fail
  go_loopw [0, 5] (fun v0 v5 wr => ∃ (m h : Nat), v0 = .int .i64 m ∧ v5 = .int .i64 h ∧ 1 ≤ m ∧ m ≤ 4294967296 ∧ Hid (h + maxH e m = maxH e n + 1) ∧ h ≤ 4294967297 ∧ Hid (Fr w wr)) (fun v0 _ _ => (intOf v0).toNat)
  case atStart => exact ⟨n, 1, rfl, rfl, h1, hn, by rw [Hid]; omega, by omega, Fr.refl _⟩
  case round =>
    obtain ⟨m, h, rfl, rfl, hm1, hm2, hh, hhl, hf⟩ := hrel
    by_cases hc : 2 * e < m + 1
    · have k1 : decide ((m : Int) > 2 * (e : Int) - 1) = true := decide_eq_true (by omega)
      obtain ⟨q, hq⟩ : ∃ q, m / e = q := ⟨_, rfl⟩
      have hql : q ≤ m := by rw [← hq]; exact Nat.div_le_self _ _
      have w3a : (m : Int) / (e : Int) = (q : Int) := by rw [← Int.natCast_ediv, hq]
      have w3b : IntKind.i64.wrap (q : Int) = (q : Int) := wrap_i64_in _ (by omega) (by omega)
      have wq1 : IntKind.i64.wrap ((q : Int) + 1) = (q : Int) + 1 := wrap_i64_in _ (by omega) (by omega)
      have wh1 : IntKind.i64.wrap ((h : Int) + 1) = (h : Int) + 1 := wrap_i64_in _ (by omega) (by omega)
      have hless := div_less he.1 hc
      have hst := maxH_step he.1 hc
      rw [hq] at hless hst
      have HLESS := Lib.hid hless
      have HH2 : Hid (h + 1 + maxH e (q + 1) = maxH e n + 1) := by rw [Hid, ← hh.out, hst]; omega
      have HB : Hid (h + 1 ≤ 4294967297) := by
        have h9 := HH2.out
        have h8 := maxH_pos (e := e) (n := q + 1) (by omega)
        have h7 := maxH_le he.1 n
        rw [Hid]; omega
      clear hst hless hq hh
      go_wp2_with fail
      exact ⟨⟨q + 1, h + 1, rfl, rfl, by omega, by have := HLESS.out; omega, HH2.out, HB.out, hf.out⟩, by have := HLESS.out; simp only [intOf]; omega⟩
    · have k1 : decide ((m : Int) > 2 * (e : Int) - 1) = false := decide_eq_false (by omega)
      have HP : Hid (h = maxH e n) := by
        have h9 := hh.out
        have h8 := maxH_one (e := e) (n := m) (by omega) (by omega)
        rw [Hid]; omega
      clear hh
      go_wp2_with fail
      go_ret
      exact ⟨by rw [← HP.out]; rfl, hf.out⟩
end Go.Proofs.YthjimnmgbcckjaaGreat
