/- Parts of this proof, one behind the other: Probe2, Look, Down, Find, Desc, FindP, Ask. -/
import Derived.Test.YthjimnmgbcckjaaGreatQH
namespace Go.Proofs.YthjimnmgbcckjaaGreat
set_option maxRecDepth 100000
open Go.RowKit Go.Inc Go.Run
attribute [local go_sem] run_store_float

/-- The row of a level above the keys. -/
theorem row_at {Ss : List (List Seg)} {l s : Int} {K : List Int} (h0 : 0 ≤ s) (h1 : s < sizeV K Ss l) (h2 : l ≠ 0) : ∃ (k j : Nat) (S : List Seg) (_hj : j < S.length), l = (k : Int) + 1 ∧ s = (j : Int) ∧ Ss[k]? = some S ∧ k < Ss.length ∧ rowAt Ss l = S := by
  unfold sizeV at h1
  split at h1
  · omega
  · rename_i hc
    try rw [if_neg h2] at h1
    obtain ⟨k, rfl⟩ : ∃ k : Nat, l = (k : Int) + 1 := ⟨(l - 1).toNat, by omega⟩
    have hk : k < Ss.length := by omega
    have hr : rowAt Ss ((k : Int) + 1) = Ss[k] := by
      unfold rowAt
      rw [Int.add_sub_cancel, Int.toNat_natCast, List.getD_eq_getElem?_getD, List.getElem?_eq_getElem hk]; rfl
    rw [hr] at h1
    exact ⟨k, s.toNat, Ss[k], by omega, rfl, by omega, List.getElem?_eq_getElem hk, hk, hr⟩
theorem key_at {Ss : List (List Seg)} {s : Int} {K : List Int} (h0 : 0 ≤ s) (h1 : s < sizeV K Ss 0) : ∃ j : Nat, j < K.length ∧ s = (j : Int) := by
  unfold sizeV at h1
  rw [if_neg (by omega), if_pos rfl] at h1
  exact ⟨s.toNat, by omega, by omega⟩
theorem keyV_key {K : List Int} {Ss : List (List Seg)} {j : Nat} (h : j < K.length) : keyV K Ss 0 (j : Int) = ky K j := by
  unfold keyV
  rw [if_neg, if_pos rfl, Int.toNat_natCast]
  unfold sizeV
  rw [if_neg (by omega), if_pos rfl]
  omega
theorem sizeV_row {K : List Int} {Ss : List (List Seg)} {k : Nat} {S : List Seg} (hk : k < Ss.length) (h : rowAt Ss ((k : Int) + 1) = S) : sizeV K Ss ((k : Int) + 1) = (S.length : Nat) := by
  unfold sizeV
  rw [if_neg (by omega), if_neg (by omega), h]
theorem keyV_row {K : List Int} {Ss : List (List Seg)} {k j : Nat} {S : List Seg} (hk : k < Ss.length) (h : rowAt Ss ((k : Int) + 1) = S) (hj : j < S.length) : keyV K Ss ((k : Int) + 1) (j : Int) = S[j].first := by
  unfold keyV
  rw [sizeV_row hk h, if_neg (by omega), if_neg (by omega), h, Int.toNat_natCast, List.getD_eq_getElem?_getD, List.getElem?_eq_getElem hj]; rfl
theorem segV_row {K : List Int} {Ss : List (List Seg)} {k j : Nat} {S : List Seg} (hk : k < Ss.length) (h : rowAt Ss ((k : Int) + 1) = S) (hj : j < S.length) : segV K Ss ((k : Int) + 1) (j : Int) = S[j] := by
  unfold segV
  rw [sizeV_row hk h, if_neg (by omega), h, Int.toNat_natCast, List.getD_eq_getElem?_getD, List.getElem?_eq_getElem hj]; rfl
theorem sizeV_in {K : List Int} {Ss : List (List Seg)} {l : Int} {B : Nat} (hK : K.length ≤ B) (hS : ∀ S ∈ Ss, S.length ≤ B) : 0 ≤ sizeV K Ss l ∧ sizeV K Ss l ≤ B := by
  unfold sizeV
  split
  · omega
  · split
    · omega
    · unfold rowAt
      rw [List.getD_eq_getElem?_getD]
      cases h : Ss[(l - 1).toNat]? with
      | none => simp
      | some S =>
        have := hS S (List.mem_of_getElem? h)
        simp; exact this

set_option maxHeartbeats 1000000 in
theorem pkey_calls (p : Nat) (eps : Int) (K : List Int) (Ss : List (List Seg)) (l s : Int) (hl : -9223372036854775808 ≤ l ∧ l ≤ 9223372036854775807) (hs : -9223372036854775808 ≤ s ∧ s ≤ 9223372036854775807) (w : World) (h : PileR w p eps K Ss)
    (hB : K.length ≤ 4294967296 ∧ ∀ S ∈ Ss, S.length ≤ 4294967296) : Calls Tryz.prog 200 #[.pointer (some ⟨p, 0, none⟩), .int .i64 l, .int .i64 s] w fun e w' => e = .returned (.int .u64 (keyV K Ss l s)) ∧ w' = w := by
  have PS := psize_calls p eps K Ss l hl w h
  have HIN := Lib.hid (sizeV_in (l := l) hB.1 hB.2)
  obtain ⟨Ak, ck, Al, cl, vs, ⟨h1, h2, h3⟩, h4, h5, h6⟩ := h.cells
  obtain ⟨N, hN⟩ : ∃ N, Ss.length = N := ⟨_, rfl⟩
  obtain ⟨M, hM⟩ : ∃ M, K.length = M := ⟨_, rfl⟩
  have HR4 := Lib.hid h4
  have HR5 := Lib.hid h5
  have HR6 := Lib.hid h6
  have HBB := Lib.hid hB
  rw [hN] at h3
  rw [hM] at h2
  clear h h4 h5 h6 hB
  obtain ⟨z, hz⟩ : ∃ z, sizeV K Ss l = z := ⟨_, rfl⟩
  rw [hz] at PS HIN
  have HZ := Lib.hid hz
  by_cases c1 : s < 0
  · have d1 : decide (s < 0) = true := decide_eq_true c1
    have hp : Hid (keyV K Ss l s = 0) := by rw [Hid]; unfold keyV; rw [if_pos (.inl c1)]
    clear hN hM hz
    go_enter Tryz.func200, Tryz.ntmps200
    go_wp2_with fail
    go_ret
    exact ⟨by rw [hp.out]; rfl, rfl⟩
  · have d1 : decide (s < 0) = false := decide_eq_false c1
    by_cases c2 : z ≤ s
    · have d2 : decide (s ≥ z) = true := decide_eq_true c2
      have hp : Hid (keyV K Ss l s = 0) := by rw [Hid]; unfold keyV; rw [if_pos (.inr (by rw [hz]; exact c2))]
      clear hN hM hz
      go_enter Tryz.func200, Tryz.ntmps200
      go_wp2_with fail
      refine PS.mono ?_
      rintro _ _ ⟨rfl, rfl⟩
      go_wp2_with fail
      go_ret
      exact ⟨by rw [hp.out]; rfl, rfl⟩
    · have d2 : decide (s ≥ z) = false := decide_eq_false c2
      by_cases c3 : l = 0
      · subst c3
        obtain ⟨j, hj, rfl⟩ := key_at (K := K) (Ss := Ss) (s := s) (by omega) (by rw [hz]; omega)
        have hp : Hid (keyV K Ss 0 (j : Int) = ky K j) := keyV_key hj
        obtain ⟨bk, ok, hAk, hck⟩ := rdc_ky HR4.out (by omega)
        subst hAk
        have x0 := hck j hj
        have hBK := HBB.out.1
        have w2 : IntKind.i64.wrap (j : Int) = (j : Int) := wrap_i64_in _ (by omega) (by omega)
        have g0 : (j : Int) < (M : Int) := by omega
        have g1 : (0 : Int) ≤ (j : Int) := by omega
        clear hN hM hck hj hz c1
        go_enter Tryz.func200, Tryz.ntmps200
        go_wp2_with fail
        refine PS.mono ?_
        rintro _ _ ⟨rfl, rfl⟩
        go_wp2_with fail
        go_ret
        exact ⟨by rw [hp.out]; rfl, rfl⟩
      · have d3 : (l == 0) = false := by rw [beq_eq_false_iff_ne]; exact c3
        obtain ⟨k, j, S, hj, rfl, rfl, hSk, hkS, hrow⟩ := row_at (K := K) (Ss := Ss) (l := l) (s := s) (by omega) (by rw [hz]; omega) c3
        obtain ⟨As, cs, hvs, hcs, hrs⟩ := HR6.out.at hSk
        obtain ⟨bv, ov, hAv, hcv⟩ := HR5.out.at (by have := HR6.out.len; omega)
        subst hAv
        have x0 := hcv k _ hvs
        obtain ⟨bs, os, hAs, hcc⟩ := rdc_seg hrs (by omega)
        subst hAs
        have x1 := (hcc j hj).1
        have hp : Hid (keyV K Ss ((k : Int) + 1) (j : Int) = S[j].first) := keyV_row hkS hrow hj
        obtain ⟨sg, hsg⟩ : ∃ sg, S[j] = sg := ⟨_, rfl⟩
        rw [hsg] at x1 hp
        have hBS := HBB.out.2 S (List.mem_of_getElem? hSk)
        obtain ⟨Q, hQ⟩ : ∃ Q, S.length = Q := ⟨_, rfl⟩
        rw [hQ] at x0
        have w1 : IntKind.i64.wrap ((k : Int) + 1 - 1) = (k : Int) := by rw [wrap_i64_in _ (by omega) (by omega)]; omega
        have w2 : IntKind.i64.wrap (k : Int) = (k : Int) := wrap_i64_in _ (by omega) (by omega)
        have w3 : IntKind.i64.wrap (j : Int) = (j : Int) := wrap_i64_in _ (by omega) (by omega)
        have g0 : (k : Int) < (N : Int) := by omega
        have g1 : (j : Int) < (Q : Int) := by omega
        have HJ := Lib.hid hj
        clear hsg hj hQ
        clear hN hM hcv hvs hSk hrow hrs hcc hz c1
        go_enter Tryz.func200, Tryz.ntmps200
        go_wp2_with fail
        refine PS.mono ?_
        rintro _ _ ⟨rfl, rfl⟩
        go_wp2_with fail
        go_ret
        exact ⟨by rw [hp.out]; rfl, rfl⟩

/-- A segment that is stored. -/
def setSeg (w : World) (g : Nat) (s : Seg) : World := ((((w.setCell ⟨g, 0, none⟩ (.int .u64 s.first)).setCell ⟨g, 1, none⟩ (.float .f64 s.slope)).setCell ⟨g, 2, none⟩ (.float .f64 s.inter)).setCell ⟨g, 3, none⟩ (.int .i64 s.frm)).setCell ⟨g, 4, none⟩ (.int .i64 s.upto)
theorem setSeg_blk {w : World} {g : Nat} {a b c d e : Value} {t : TypeId} (h : w.heap[g]? = some (.cells #[a, b, c, d, e] t)) (s : Seg) : (setSeg w g s).heap[g]? = some (.cells #[.int .u64 s.first, .float .f64 s.slope, .float .f64 s.inter, .int .i64 s.frm, .int .i64 s.upto] t) :=
  blk_set (blk_set (blk_set (blk_set (blk_set h 0 (.int .u64 s.first)) 1 (.float .f64 s.slope)) 2 (.float .f64 s.inter)) 3 (.int .i64 s.frm)) 4 (.int .i64 s.upto)
theorem setSeg_fr {w w' : World} {g : Nat} (h : Fr w w') (hg : w.heap.size ≤ g) (s : Seg) : Fr w (setSeg w' g s) :=
  (((((h.set (p := ⟨g, 0, none⟩) hg _).set (p := ⟨g, 1, none⟩) hg _).set (p := ⟨g, 2, none⟩) hg _).set (p := ⟨g, 3, none⟩) hg _).set (p := ⟨g, 4, none⟩) hg _)

set_option maxHeartbeats 1000000 in
theorem pseg_calls (p : Nat) (eps : Int) (K : List Int) (Ss : List (List Seg)) (l s : Int) (hl : -9223372036854775808 ≤ l ∧ l ≤ 9223372036854775807) (hs : -9223372036854775808 ≤ s ∧ s ≤ 9223372036854775807) (w : World) (h : PileR w p eps K Ss)
    (hB : K.length ≤ 4294967296 ∧ ∀ S ∈ Ss, S.length ≤ 4294967296) : Calls Tryz.prog 201 #[.pointer (some ⟨p, 0, none⟩), .int .i64 l, .int .i64 s] w fun e w' => e = .returned (segVal (segV K Ss l s)) ∧ Fr w w' := by
  have HPS : Hid (∀ w', Fr w w' → Calls Tryz.prog 202 #[.pointer (some ⟨p, 0, none⟩), .int .i64 l] w' fun e w'' => e = .returned (.int .i64 (sizeV K Ss l)) ∧ w'' = w') := fun w' hf => psize_calls p eps K Ss l hl w' (h.fr hf)
  have HIN := Lib.hid (sizeV_in (l := l) hB.1 hB.2)
  have HP := Lib.hid h
  have HBB := Lib.hid hB
  clear h hB
  obtain ⟨z, hz⟩ : ∃ z, sizeV K Ss l = z := ⟨_, rfl⟩
  rw [hz] at HPS HIN
  have HZ := Lib.hid hz
  obtain ⟨w1, hw1⟩ : ∃ w1, w1 = w.alloc (.cells #[.int .u64 0, .float .f64 0, .float .f64 0, .int .i64 0, .int .i64 0] 65) := ⟨_, rfl⟩
  have hb1 := heap_alloc_new w (.cells #[.int .u64 0, .float .f64 0, .float .f64 0, .int .i64 0, .int .i64 0] 65)
  have hf1 := Lib.hid ((Fr.refl w).alloc (.cells #[.int .u64 0, .float .f64 0, .float .f64 0, .int .i64 0, .int .i64 0] 65))
  have HF0 := hf1
  rw [← hw1] at hb1 hf1
  have z0 := blk_frozen hb1 0
  have z1 := blk_frozen hb1 1
  have z2 := blk_frozen hb1 2
  have z3 := blk_frozen hb1 3
  have z4 := blk_frozen hb1 4
  obtain ⟨x0, x1, x2, x3, x4⟩ := cells5 hb1
  have HB1 := Lib.hid hb1
  have HW1 := Lib.hid hw1
  clear hb1
  by_cases c0 : l < 1
  · have d0 : decide (l < 1) = true := decide_eq_true c0
    have hp : Hid (segV K Ss l s = seg0) := by rw [Hid]; unfold segV; rw [if_pos (.inl c0)]
    clear hz
    go_enter Tryz.func201, Tryz.ntmps201
    go_wp2_with (rw [← HW1.out])
    refine bodyPost_ret (results_cell_row rfl _ _ w.heap.size _ _ (0, 0) _ rfl HB1.out Tryz.underlying65 rfl (by kernel_rfl)) rfl ⟨by rw [hp.out]; rfl, hf1.out⟩
  · have d0 : decide (l < 1) = false := decide_eq_false c0
    by_cases c1 : s < 0
    · have d1 : decide (s < 0) = true := decide_eq_true c1
      have hp : Hid (segV K Ss l s = seg0) := by rw [Hid]; unfold segV; rw [if_pos (.inr (.inl c1))]
      clear hz
      go_enter Tryz.func201, Tryz.ntmps201
      go_wp2_with (rw [← HW1.out])
      refine bodyPost_ret (results_cell_row rfl _ _ w.heap.size _ _ (0, 0) _ rfl HB1.out Tryz.underlying65 rfl (by kernel_rfl)) rfl ⟨by rw [hp.out]; rfl, hf1.out⟩
    · have d1 : decide (s < 0) = false := decide_eq_false c1
      clear hw1
      by_cases c2 : z ≤ s
      · have d2 : decide (s ≥ z) = true := decide_eq_true c2
        have hp : Hid (segV K Ss l s = seg0) := by rw [Hid]; unfold segV; rw [if_pos (.inr (.inr (by rw [hz]; exact c2)))]
        clear hz
        go_enter Tryz.func201, Tryz.ntmps201
        go_wp2_with fail
        refine (HPS.out _ HF0.out).mono ?_
        rintro _ w2 ⟨rfl, hw2⟩
        rw [← HW1.out] at hw2
        subst hw2
        go_wp2_with fail
        refine bodyPost_ret (results_cell_row rfl _ _ w.heap.size _ _ (0, 0) _ rfl (setSeg_blk HB1.out seg0) Tryz.underlying65 rfl (by kernel_rfl)) rfl ⟨by rw [hp.out]; rfl, setSeg_fr hf1.out (Nat.le_refl _) seg0⟩
      · have d2 : decide (s ≥ z) = false := decide_eq_false c2
        obtain ⟨k, j, S, hj, rfl, rfl, hSk, hkS, hrow⟩ := row_at (K := K) (Ss := Ss) (l := l) (s := s) (by omega) (by rw [hz]; omega) (by omega)
        obtain ⟨Ak, ck, Al, cl, vs, ⟨h1, h2, h3⟩, h4, h5, h6⟩ := (HP.out.fr hf1.out).cells
        obtain ⟨N, hN⟩ : ∃ N, Ss.length = N := ⟨_, rfl⟩
        rw [hN] at h3
        obtain ⟨As, cs, hvs, hcs, hrs⟩ := h6.at hSk
        obtain ⟨bv, ov, hAv, hcv⟩ := h5.at (by have := h6.len; omega)
        subst hAv
        have q0 := hcv k _ hvs
        obtain ⟨bs, os, hAs, hcc⟩ := rdc_seg hrs (by omega)
        subst hAs
        obtain ⟨y0, y1, y2, y3, y4⟩ := hcc j hj
        have hp : Hid (segV K Ss ((k : Int) + 1) (j : Int) = S[j]) := segV_row hkS hrow hj
        obtain ⟨sg, hsg⟩ : ∃ sg, S[j] = sg := ⟨_, rfl⟩
        rw [hsg] at y0 y1 y2 y3 y4 hp
        have hBS := HBB.out.2 S (List.mem_of_getElem? hSk)
        obtain ⟨Q, hQ⟩ : ∃ Q, S.length = Q := ⟨_, rfl⟩
        rw [hQ] at q0
        have e1 : IntKind.i64.wrap ((k : Int) + 1 - 1) = (k : Int) := by rw [wrap_i64_in _ (by omega) (by omega)]; omega
        have e2 : IntKind.i64.wrap (k : Int) = (k : Int) := wrap_i64_in _ (by omega) (by omega)
        have e3 : IntKind.i64.wrap (j : Int) = (j : Int) := wrap_i64_in _ (by omega) (by omega)
        have g0 : (k : Int) < (N : Int) := by omega
        have g1 : (j : Int) < (Q : Int) := by omega
        clear hsg hj hQ
        clear hN hcv hvs hSk hrow hrs hcc hz c1 h4 h5 h6
        go_enter Tryz.func201, Tryz.ntmps201
        go_wp2_with fail
        refine (HPS.out _ HF0.out).mono ?_
        rintro _ w2 ⟨rfl, hw2⟩
        rw [← HW1.out] at hw2
        subst hw2
        go_wp2_with fail
        refine bodyPost_ret (results_cell_row rfl _ _ w.heap.size _ _ (0, 0) _ rfl (setSeg_blk HB1.out sg) Tryz.underlying65 rfl (by kernel_rfl)) rfl ⟨by rw [hp.out]; rfl, setSeg_fr hf1.out (Nat.le_refl _) sg⟩
end Go.Proofs.YthjimnmgbcckjaaGreat
namespace Go.Proofs.YthjimnmgbcckjaaGreat
set_option maxRecDepth 100000
open Go.RowKit Go.Inc Go.Run


theorem look_calls (p : Nat) (eps : Int) (K : List Int) (Ss : List (List Seg)) (l : Int) (lo hi up r : Nat) (k : Int) (hl : -9223372036854775808 ≤ l ∧ l ≤ 9223372036854775807) (hlo : lo ≤ r) (hrh : r ≤ hi) (hh : hi ≤ 4294967296) (_hu : up ≤ 4294967296)
    (hbel : ∀ i : Nat, lo ≤ i → i < r → keyV K Ss l i < k) (habo : ∀ i : Nat, r ≤ i → i < hi → k ≤ keyV K Ss l i) (w : World) (h : PileR w p eps K Ss)
    (hB : K.length ≤ 4294967296 ∧ ∀ S ∈ Ss, S.length ≤ 4294967296) :
    Calls Tryz.prog 107 #[.pointer (some ⟨p, 0, none⟩), .int .i64 l, .int .i64 lo, .int .i64 hi, .int .i64 up, .int .u64 k] w fun e w' => e = .returned (.tuple #[.int .i64 (r : Nat), .bool (decide ((r < hi ∨ r < up) ∧ keyV K Ss l r = k))]) ∧ w' = w := by
  have PK : Hid (∀ i : Nat, i ≤ 4294967296 → Calls Tryz.prog 200 #[.pointer (some ⟨p, 0, none⟩), .int .i64 l, .int .i64 (i : Nat)] w fun e w' => e = .returned (.int .u64 (keyV K Ss l i)) ∧ w' = w) := fun i hi => pkey_calls p eps K Ss l i hl (by omega) w h hB
  have HBE := Lib.hid hbel
  have HAB := Lib.hid habo
  obtain ⟨kv, hkv⟩ : ∃ kv : Nat → Int, ∀ i : Nat, keyV K Ss l i = kv i := ⟨fun i => keyV K Ss l i, fun _ => rfl⟩
  simp only [hkv] at PK HBE HAB ⊢
  clear h hB hbel habo hl hkv
  obtain ⟨w0, hw0⟩ : ∃ w0, w0 = w := ⟨_, rfl⟩
  have hm : ∀ (N : Nat) (w : World), (method (N + 1) 43 (.pointer (some ⟨p, 0, none⟩)) "Key").run Tryz.prog w = .ok (200, .pointer (some ⟨p, 0, none⟩)) w := fun _ _ => by kernel_rfl
  go_enter Tryz.func107, Tryz.ntmps107
  go_wp2_with fail
  go_loopw [2, 3, 14, 15] (fun v2 v3 v14 v15 wr => ∃ (a b : Nat) (kn : Bool) (kk : Int), v2 = .int .i64 a ∧ v3 = .int .i64 b ∧ v14 = .bool kn ∧ v15 = .int .u64 kk ∧ lo ≤ a ∧ a ≤ r ∧ r ≤ b ∧ b ≤ hi ∧ Hid (kn = decide (b < hi)) ∧ Hid (b < hi → kk = kv b) ∧ wr = w) (fun v2 v3 _ _ _ => (intOf v3).toNat - (intOf v2).toNat)
  case atStart => exact ⟨lo, hi, false, 0, rfl, rfl, rfl, rfl, by omega, by omega, by omega, by omega, by rw [Hid]; simp, fun h => absurd h (by omega), rfl⟩
  case round =>
    obtain ⟨a, b, kn, kk, rfl, rfl, rfl, rfl, hla, har, hrb, hbh, hkn, hkk, rfl⟩ := hrel
    rcases Nat.lt_or_ge a b with hlt | hge
    · have g1 : decide (a < b) = true := decide_eq_true hlt
      obtain ⟨m, hm⟩ : ∃ m, m = (a + b) / 2 := ⟨_, rfl⟩
      have wa : IntKind.i64.wrap ((a : Int) + (b : Int)) = (a : Int) + (b : Int) := wrap_i64_in _ (by omega) (by omega)
      have wq : IntKind.i64.wrap (Int.tdiv ((a : Int) + (b : Int)) 2) = (m : Int) := by
        rw [Int.tdiv_eq_ediv_of_nonneg (by omega), wrap_i64_in _ (by omega) (by omega)]; omega
      have hma : a ≤ m := by omega
      have hmb : m < b := by omega
      have wm : IntKind.i64.wrap ((m : Int) + 1) = (m : Int) + 1 := wrap_i64_in _ (by omega) (by omega)
      have HM := Lib.hid hm
      clear hm
      go_wp2_with fail

      refine (PK.out m (by omega)).mono ?_
      rintro _ w2 ⟨rfl, rfl⟩
      by_cases hc : kv m < k
      · have d2 : decide (kv m < k) = true := decide_eq_true hc
        go_wp2_with fail
        refine ⟨⟨m + 1, b, kn, kk, rfl, rfl, rfl, rfl, by omega, ?_, hrb, hbh, hkn.out, hkk.out, trivial⟩, by simp only [intOf]; omega⟩
        rcases Nat.lt_or_ge m r with h | h
        · exact h
        · exact absurd (HAB.out m h (by omega)) (by omega)
      · have d2 : decide (kv m < k) = false := decide_eq_false hc
        go_wp2_with fail
        refine ⟨⟨a, m, true, kv m, rfl, rfl, rfl, rfl, hla, har, ?_, by omega, ?_, fun _ => rfl, trivial⟩, by simp only [intOf]; omega⟩
        · rcases Nat.lt_or_ge m r with h | h
          · exact absurd (HBE.out m (by omega) h) (by omega)
          · exact h
        · exact (decide_eq_true (by omega)).symm
    · obtain rfl : a = r := by omega
      obtain rfl : a = b := by omega
      have g1 : decide (a < a) = false := by simp
      by_cases hk : a < hi
      · obtain rfl : kn = true := by rw [hkn.out]; exact decide_eq_true hk
        obtain rfl : kk = kv a := hkk.out hk
        have hp : Hid (decide ((a < hi ∨ a < up) ∧ kv a = k) = (kv a == k)) := by
          rw [Hid]
          by_cases h : kv a = k
          · rw [decide_eq_true ⟨.inl hk, h⟩]; simp [h]
          · rw [decide_eq_false (fun q => h q.2)]; simp [h]
        clear hkk hkn hk
        go_wp2_with fail
        refine bodyPost_ret (results_tmp2 rfl _ _ _) rfl ?_
        exact ⟨by rw [hp.out]; rfl, rfl⟩
      · obtain rfl : kn = false := by rw [hkn.out]; exact decide_eq_false hk
        by_cases hup : a < up
        · have d3 : decide (a < up) = true := decide_eq_true hup
          have hp : Hid (decide ((a < hi ∨ a < up) ∧ kv a = k) = (kv a == k)) := by
            rw [Hid]
            by_cases h : kv a = k
            · rw [decide_eq_true ⟨.inr hup, h⟩]; simp [h]
            · rw [decide_eq_false (fun q => h q.2)]; simp [h]
          clear hkk hkn hk
          go_wp2_with fail
          refine (PK.out a (by omega)).mono ?_
          rintro _ w2 ⟨rfl, rfl⟩
          go_wp2_with fail
          refine bodyPost_ret (results_tmp2 rfl _ _ _) rfl ?_
          exact ⟨by rw [hp.out]; rfl, rfl⟩
        · have d3 : decide (a < up) = false := decide_eq_false hup
          have hp : Hid (decide ((a < hi ∨ a < up) ∧ kv a = k) = false) := by
            rw [Hid]
            exact decide_eq_false (fun q => q.1.elim (fun h => hk h) (fun h => hup h))
          clear hkk hkn hk
          go_wp2_with fail
          refine bodyPost_ret (results_tmp2 rfl _ _ _) rfl ?_
          exact ⟨by rw [hp.out]; rfl, rfl⟩
end Go.Proofs.YthjimnmgbcckjaaGreat
namespace Go.Proofs.YthjimnmgbcckjaaGreat
open Go.RowKit Go.Inc Go.Run

/-- The number of keys below k. -/
structure IsRank (L : List Int) (k : Int) (r : Nat) : Prop where
  le : r ≤ L.length
  bel : ∀ i, i < r → ky L i < k
  abo : ∀ i, r ≤ i → i < L.length → k ≤ ky L i
theorem IsRank.unique {L : List Int} {k : Int} {r r' : Nat} (h : IsRank L k r) (h' : IsRank L k r') : r = r' := by
  rcases Nat.lt_trichotomy r r' with h1 | h1 | h1
  · have := h'.bel r h1; have := h.abo r (Nat.le_refl _) (by have := h'.le; omega); omega
  · exact h1
  · have := h.bel r' h1; have := h'.abo r' (Nat.le_refl _) (by have := h.le; omega); omega
theorem rank_ex {L : List Int} (hR : Rise L) (k : Int) : ∃ r, IsRank L k r := by
  have : ∀ n, n ≤ L.length → ∃ r, r ≤ n ∧ (∀ i, i < r → ky L i < k) ∧ (∀ i, r ≤ i → i < n → k ≤ ky L i) := by
    intro n
    induction n with
    | zero => intro _; exact ⟨0, by omega, fun i h => by omega, fun i _ h => by omega⟩
    | succ n ih =>
      intro hn
      obtain ⟨r, h1, h2, h3⟩ := ih (by omega)
      by_cases hc : r = n ∧ ky L n < k
      · refine ⟨n + 1, by omega, fun i hi => ?_, fun i h h' => by omega⟩
        rcases Nat.lt_or_ge i n with h | h
        · exact h2 i (by omega)
        · obtain rfl : i = n := by omega
          exact hc.2
      · refine ⟨r, by omega, h2, fun i hi hi' => ?_⟩
        rcases Nat.lt_or_ge i n with h | h
        · exact h3 i hi h
        · obtain rfl : i = n := by omega
          rcases Nat.lt_or_ge r i with h5 | h5
          · have := h3 (i - 1) (by omega) (by omega)
            have := rise_lt hR (i := i - 1) (j := i) (by omega) (by omega)
            omega
          · have : ¬ ky L i < k := fun h => hc ⟨by omega, h⟩
            omega
  obtain ⟨r, h1, h2, h3⟩ := this L.length (Nat.le_refl _)
  exact ⟨r, h1, h2, h3⟩

/-- A row that lies over keys, and predicts their places. -/
structure LevelT (eps : Int) (L : List Int) (S : List Seg) : Prop where
  tiles : tilesOk S 0 L.length = true
  segs : segsV eps L S = 0
  fit : ∀ s ∈ S, SegFit s
theorem segs_at {eps : Int} {L : List Int} : ∀ {S : List Seg}, segsV eps L S = 0 → ∀ i (hi : i < S.length), SegOk S[i] ∧ S[i].first = ky L S[i].frm.toNat ∧ offOk eps L S[i]
  | [], _, i, hi => by simp at hi
  | s :: S, h, i, hi => by
    unfold segsV at h
    by_cases h1 : chk s ≠ 0
    · rw [if_pos h1] at h; exact absurd h h1
    · rw [if_neg h1] at h
      by_cases h2 : s.first ≠ ky L s.frm.toNat
      · rw [if_pos h2] at h; cases h
      · rw [if_neg h2] at h
        by_cases h3 : offOk eps L s
        · rw [if_pos h3] at h
          cases i with
          | zero => exact ⟨chk_ok.1 (Decidable.not_not.1 h1), Decidable.not_not.1 h2, h3⟩
          | succ i => exact segs_at h i (by simpa using hi)
        · rw [if_neg h3] at h; cases h
theorem tiles_chain : ∀ {S : List Seg} {at' n : Int}, tilesOk S at' n = true → ∀ i (hi : i < S.length), (i = 0 → S[i].frm = at') ∧ (∀ h : i + 1 < S.length, S[i + 1].frm = S[i].upto) ∧ (i + 1 = S.length → S[i].upto = n)
  | [], at', n, _, i, hi => by simp at hi
  | s :: S, at', n, h, i, hi => by
    unfold tilesOk at h
    simp only [Bool.and_eq_true, decide_eq_true_eq] at h
    obtain ⟨⟨h1, h2, h3⟩, h4⟩ := h
    cases i with
    | zero =>
      refine ⟨fun _ => h1, fun h => ?_, fun h => ?_⟩
      · have := (tiles_chain h4 0 (by simpa using h)).1 rfl
        exact this
      · have hS : S = [] := by simpa using h
        subst hS
        unfold tilesOk at h4
        exact of_decide_eq_true h4
    | succ i =>
      obtain ⟨_, a2, a3⟩ := tiles_chain h4 i (by simpa using hi)
      exact ⟨fun h => by omega, fun h => a2 (by simpa using h), fun h => a3 (by simpa using h)⟩
theorem tiles_len : ∀ {S : List Seg} {at' n : Int}, tilesOk S at' n = true → (S.length : Int) ≤ n - at'
  | [], at', n, h => by
    unfold tilesOk at h
    have := of_decide_eq_true h
    simp; omega
  | s :: S, at', n, h => by
    unfold tilesOk at h
    simp only [Bool.and_eq_true, decide_eq_true_eq] at h
    obtain ⟨⟨h1, h2, h3⟩, h4⟩ := h
    have := tiles_len h4
    simp; omega
theorem tiles_pos {S : List Seg} {n : Int} (h : tilesOk S 0 n = true) (hn : 0 < n) : 0 < S.length := by
  cases S with
  | nil => unfold tilesOk at h; have := of_decide_eq_true h; omega
  | cons => simp

/-- The place on a level that covers a key: its key is not above it (but for the first), the next one is. -/
structure Cover (L : List Int) (k : Int) (i : Nat) : Prop where
  lt : i < L.length
  lo : i = 0 ∨ ky L i ≤ k
  hi : i + 1 < L.length → k < ky L (i + 1)
theorem firsts_ky {S : List Seg} {i : Nat} (h : i < S.length) : ky (firstsOf S) i = S[i].first := by
  unfold firstsOf ky
  simp [h]
theorem firsts_len (S : List Seg) : (firstsOf S).length = S.length := by unfold firstsOf; simp

structure Window (L : List Int) (k eps : Int) (s : Seg) (r : Nat) : Prop where
  ok : SegOk s
  fit : SegFit s
  lo : max s.frm (guessV s k - eps - 1) ≤ r
  hi : (r : Int) ≤ min s.upto (guessV s k + eps + 1)
  len : s.upto ≤ L.length
  ex : decide (((r : Int) < min s.upto (guessV s k + eps + 1) ∨ (r : Int) < s.upto) ∧ ky L r = k) = decide (r < L.length ∧ ky L r = k)
  next1 : r < L.length → ky L r = k → Cover L k r
  next2 : ¬ (r < L.length ∧ ky L r = k) → Cover L k (max ((r : Int) - 1) s.frm).toNat
  frm : 0 ≤ s.frm
  off : r < L.length → ky L r = k → -eps ≤ guessV s k - r ∧ guessV s k - r ≤ eps

theorem window {eps : Int} (he : 2 ≤ eps ∧ eps ≤ 64) {L : List Int} (hR : Rise L) {S : List Seg} (h : LevelT eps L S) {k : Int} {i : Nat} (hc : Cover (firstsOf S) k i) {r : Nat} (hr : IsRank L k r) (hi : i < S.length) :
    Window L k eps S[i] r := by
  obtain ⟨k1, hfirst, hoff⟩ := segs_at h.segs i hi
  obtain ⟨h0, h1, h2⟩ := tiles_chain h.tiles i hi
  obtain ⟨t1, t2, t3⟩ := tiles_at h.tiles (by omega) i hi
  have hn1 : ∀ h4 : i + 1 < S.length, S[i + 1].first = ky L S[i].upto.toNat ∧ S[i].upto < L.length := by
    intro h4
    obtain ⟨k4, f4, _⟩ := segs_at h.segs (i + 1) h4
    obtain ⟨u1, u2, u3⟩ := tiles_at h.tiles (by omega) (i + 1) h4
    rw [h1 h4] at f4 u1 u2
    exact ⟨f4, by omega⟩
  have k2 : SegFit S[i] := h.fit _ (List.getElem_mem hi)
  clear h1
  obtain ⟨s, hsi⟩ : ∃ s, S[i] = s := ⟨_, rfl⟩
  have clo := hc.lo
  have chi := hc.hi
  rw [firsts_len] at chi
  rw [firsts_ky hi] at clo
  rw [hsi] at clo k1 hfirst hoff h0 h2 t1 t2 t3 hn1 k2 ⊢
  obtain ⟨a, ha⟩ : ∃ a : Nat, s.frm = a := ⟨s.frm.toNat, by omega⟩
  obtain ⟨b, hb⟩ : ∃ b : Nat, s.upto = b := ⟨s.upto.toNat, by omega⟩
  have hab : a < b := by omega
  have hbl : b ≤ L.length := by omega
  rw [ha, Int.toNat_natCast] at hfirst
  rw [hb, Int.toNat_natCast] at hn1
  have kk : ∀ j : Nat, a ≤ j → j < b → -eps ≤ guessV s (ky L j) - j ∧ guessV s (ky L j) - j ≤ eps := by
    intro j h3 h4
    have h5 := hoff (j - a) (by omega)
    rw [ha, Int.toNat_natCast, show a + (j - a) = j by omega] at h5
    omega
  have hra : a ≤ r := by
    rcases Nat.lt_or_ge r a with h3 | h3
    · have h4 := hr.abo r (Nat.le_refl _) (by omega)
      have h5 := rise_lt hR h3 (by omega)
      rcases clo with h6 | h6
      · have := h0 h6; omega
      · omega
    · exact h3
  have hnext : ∀ h : b < L.length, k < ky L b := by
    intro h3
    rcases Nat.lt_or_ge (i + 1) S.length with h4 | h4
    · have h5 := chi h4
      rw [firsts_ky h4, (hn1 h4).1] at h5
      exact h5
    · have := h2 (by omega); omega
  have hrb : r ≤ b := by
    rcases Nat.lt_or_ge b r with h3 | h3
    · have h4 := hr.bel b h3
      have := hnext (by have := hr.le; omega)
      omega
    · exact h3
  have hgi := guess_in k1 k
  have g1 : guessV s k - eps - 1 ≤ r := by
    rcases Nat.lt_or_ge r b with h3 | h3
    · have h4 := hr.abo r (Nat.le_refl _) (by omega)
      have h5 := guess_mono k1.sl h4
      have := (kk r hra h3).2
      omega
    · omega
  have g2 : (r : Int) ≤ guessV s k + eps + 1 := by
    rcases Nat.lt_or_ge a r with h3 | h3
    · have h4 := hr.bel (r - 1) (by omega)
      have h5 := guess_mono k1.sl (Int.le_of_lt h4)
      have := (kk (r - 1) (by omega) (by omega)).1
      omega
    · omega
  refine ⟨k1, k2, ?_, ?_, by omega, ?_, ?_, ?_, k1.f0, ?_⟩
  · omega
  · omega
  · by_cases hx : ky L r = k
    · rcases Nat.lt_or_ge r b with h3 | h3
      · rw [decide_eq_true ⟨.inr (by omega), hx⟩, decide_eq_true ⟨by omega, hx⟩]
      · obtain rfl : r = b := by omega
        rw [decide_eq_false (fun q => by rcases q.1 with h | h <;> omega), decide_eq_false (fun q => by have := hnext q.1; omega)]
    · rw [decide_eq_false (fun q => hx q.2), decide_eq_false (fun q => hx q.2)]
  · intro h3 h4
    refine ⟨h3, .inr (by omega), fun h5 => ?_⟩
    have := rise_lt hR (i := r) (j := r + 1) (by omega) h5
    omega
  · intro hn
    rcases Nat.lt_or_ge a r with h3 | h3
    · have e1 : (max ((r : Int) - 1) s.frm).toNat = r - 1 := by omega
      rw [e1]
      refine ⟨by have := hr.le; omega, .inr (by have := hr.bel (r - 1) (by omega); omega), fun h5 => ?_⟩
      rw [show r - 1 + 1 = r by omega] at h5 ⊢
      have h6 := hr.abo r (Nat.le_refl _) h5
      have h7 : ¬ ky L r = k := fun h => hn ⟨h5, h⟩
      omega
    · obtain rfl : a = r := by omega
      have e1 : (max ((a : Int) - 1) s.frm).toNat = a := by omega
      rw [e1]
      have h6 := hr.abo a (Nat.le_refl _) (by omega)
      have h7 : ¬ ky L a = k := fun h => hn ⟨by omega, h⟩
      refine ⟨by omega, ?_, fun h5 => ?_⟩
      · rcases clo with h | h
        · exact .inl (by have := h0 h; omega)
        · omega
      · have := rise_lt hR (i := a) (j := a + 1) (by omega) h5
        omega
  · intro h3 h4
    rcases Nat.lt_or_ge r b with h5 | h5
    · have := kk r hra h5
      rw [h4] at this
      exact this
    · obtain rfl : r = b := by omega
      have := hnext h3
      omega
end Go.Proofs.YthjimnmgbcckjaaGreat
namespace Go.Proofs.YthjimnmgbcckjaaGreat
set_option maxRecDepth 100000
open Go.RowKit Go.Inc Go.Run
attribute [local go_sem] run_store_float

def two (g6 g7 : Nat) : Nat → Prop := fun k => k = g6 ∨ k = g7
theorem find1_calls (v0 v1 v2 v3 v4 r : Int) (ex : Bool) (g6 g7 : Nat) (hne : g6 ≠ g7) (x6 x7 : Value) (w : World) (h6 : w.heap[g6]? = some (.cells #[x6] 3)) (h7 : w.heap[g7]? = some (.cells #[x7] 4)) :
    Calls Tryz.prog 84 #[.agg #[.int .i64 v0, .int .i64 v1, .int .i64 v2, .int .i64 v3, .int .i64 v4, .int .i64 r], .bool ex, .pointer (some ⟨g6, 0, none⟩), .pointer (some ⟨g7, 0, none⟩)] w fun e w' => e = .returned (.tuple #[]) ∧ w'.heap[g6]? = some (.cells #[.int .i64 r] 3) ∧ w'.heap[g7]? = some (.cells #[.bool ex] 4) ∧ Mv (two g6 g7) w w' := by
  obtain ⟨w1, hw1⟩ : ∃ w1, w1 = w.alloc (.cells #[.int .i64 v0, .int .i64 v1, .int .i64 v2, .int .i64 v3, .int .i64 v4, .int .i64 r] 61) := ⟨_, rfl⟩
  have hf1 := (Fr.refl w).alloc (.cells #[.int .i64 v0, .int .i64 v1, .int .i64 v2, .int .i64 v3, .int .i64 v4, .int .i64 r] 61)
  have h6' := hf1.blk h6
  have h7' := hf1.blk h7
  have b6 := blk_cell h6' 0
  have b7 := blk_cell h7' 0
  have z6 := blk_frozen h6' 0
  have z7 := blk_frozen h7' 0
  have hb := heap_alloc_new w (.cells #[.int .i64 v0, .int .i64 v1, .int .i64 v2, .int .i64 v3, .int .i64 v4, .int .i64 r] 61)
  have y5 := blk_cell hb 5
  have y5' : (w.alloc (.cells #[.int .i64 v0, .int .i64 v1, .int .i64 v2, .int .i64 v3, .int .i64 v4, .int .i64 r] 61)).cell? ⟨w.heap.size, 5, none⟩ = some (.int .i64 r) := y5
  have b6' : (w.alloc (.cells #[.int .i64 v0, .int .i64 v1, .int .i64 v2, .int .i64 v3, .int .i64 v4, .int .i64 r] 61)).cell? ⟨g6, 0, none⟩ = some x6 := b6
  have b7' : (w.alloc (.cells #[.int .i64 v0, .int .i64 v1, .int .i64 v2, .int .i64 v3, .int .i64 v4, .int .i64 r] 61)).cell? ⟨g7, 0, none⟩ = some x7 := b7
  clear b6 b7 y5
  have HF1 := Lib.hid hf1
  have H6 := Lib.hid h6'
  have H7 := Lib.hid h7'
  clear hf1 h6 h7 h6' h7' hb
  have hne' : g7 ≠ g6 := fun h => hne h.symm
  go_enter Tryz.func84, Tryz.ntmps84
  go_wp2_with fail
  go_end0
  have k6 := blk_set H6.out 0 (.int .i64 r)
  have k7 := blk_set_ne H7.out (p := ⟨g6, 0, none⟩) hne (.int .i64 r)
  have k67 := blk_set_ne k6 (p := ⟨g7, 0, none⟩) hne' (.bool ex)
  have k77 := blk_set k7 0 (.bool ex)
  exact ⟨rfl, k67, k77, ((Mv.of_fr HF1.out).set (.inl (.inl rfl)) _).set (.inl (.inr rfl)) _⟩

/-- Where the descent stands. -/
def lvK (K : List Int) (Ss : List (List Seg)) (l : Nat) : List Int := match l with | 0 => K | l + 1 => firstsOf (Ss.getD l [])
theorem keyV_lvK {K : List Int} {Ss : List (List Seg)} {l i : Nat} (hl : l ≤ Ss.length) (hi : i < (lvK K Ss l).length) : keyV K Ss (l : Int) (i : Int) = ky (lvK K Ss l) i := by
  cases l with
  | zero => exact keyV_key hi
  | succ l =>
    have hl' : l < Ss.length := by omega
    have hr : rowAt Ss ((l : Int) + 1) = Ss.getD l [] := by unfold rowAt; rw [Int.add_sub_cancel, Int.toNat_natCast]
    have hi2 : i < (Ss.getD l []).length := by simpa [lvK, firsts_len] using hi
    rw [show ((l + 1 : Nat) : Int) = (l : Int) + 1 by omega, keyV_row hl' hr hi2]
    show _ = ky (firstsOf (Ss.getD l [])) i
    rw [firsts_ky hi2]
/-- Each row lies over the keys below it. -/
def Tower (eps : Int) (K : List Int) (Ss : List (List Seg)) : Prop := ∀ l (hl : l < Ss.length), Rise (lvK K Ss l) ∧ KeysOk (lvK K Ss l) ∧ (lvK K Ss l).length ≤ 4294967296 ∧ 0 < (lvK K Ss l).length ∧ LevelT eps (lvK K Ss l) Ss[l] ∧ (l + 1 = Ss.length → Ss[l].length = 1)
theorem lvK_cons {K : List Int} {S : List Seg} {Ss : List (List Seg)} {l : Nat} : lvK K (S :: Ss) (l + 1) = lvK (firstsOf S) Ss l := by
  cases l with
  | zero => rfl
  | succ l => rfl
theorem tower_of {eps : Int} : ∀ {Ss : List (List Seg)} {K : List Int}, Rise K → KeysOk K → K.length ≤ 4294967296 → 0 < K.length → (∀ S ∈ Ss, ∀ s ∈ S, SegFit s) → levelsV eps false K Ss = 0 → Tower eps K Ss
  | [], K, _, _, _, _, _, _ => fun l hl => by simp at hl
  | S :: Ss, K, hR, hK, hl, h0, hf, h => by
    unfold levelsV at h
    by_cases h1 : tilesOk S 0 (K.length : Int) = false
    · rw [if_pos h1] at h; cases h
    · rw [if_neg h1] at h
      have ht : tilesOk S 0 (K.length : Int) = true := by simpa using h1
      by_cases h2 : segsV eps K S ≠ 0
      · rw [if_pos h2] at h; exact absurd h h2
      · rw [if_neg h2] at h
        have hs : segsV eps K S = 0 := Decidable.not_not.1 h2
        have hL : LevelT eps K S := ⟨ht, hs, hf S (by simp)⟩
        obtain ⟨f1, f2, _⟩ := tiles_first hR hK ht (by omega) rfl (fun i hi => (segs_at hs i hi).2.1)
        have hlen := tiles_len ht
        have hpos := tiles_pos ht (by omega)
        have ih := tower_of f1 f2 (by rw [firsts_len]; omega) (by rw [firsts_len]; exact hpos) (fun T hT => hf T (by simp [hT])) h
        intro l hlt
        cases l with
        | zero =>
          refine ⟨hR, hK, hl, h0, hL, fun h3 => ?_⟩
          have hSs : Ss = [] := by simpa using h3.symm
          subst hSs
          unfold levelsV at h
          by_cases h4 : false = true ∨ (firstsOf S).length = 1
          · rcases h4 with h4 | h4
            · cases h4
            · rw [firsts_len] at h4; exact h4
          · rw [if_neg h4] at h; cases h
        | succ l =>
          rw [lvK_cons]
          obtain ⟨a1, a2, a3, a4, a5, a6⟩ := ih l (by simpa using hlt)
          exact ⟨a1, a2, a3, a4, a5, fun h => a6 (by simpa using h)⟩
/-- What levels.Check takes. -/
theorem tower {eps : Int} {Ss : List (List Seg)} {K : List Int} (hR : Rise K) (hK : KeysOk K) (hl : K.length ≤ 4294967296) (hf : ∀ S ∈ Ss, ∀ s ∈ S, SegFit s) (h : checkV eps K Ss = 0) : Tower eps K Ss ∧ (2 ≤ eps ∧ eps ≤ 64) ∧ (Ss.length = 0 ↔ K.length = 0) ∧ Ss.length ≤ maxH eps.toNat 4294967296 := by
  unfold checkV at h
  by_cases h1 : ¬ (2 ≤ eps ∧ eps ≤ 64)
  · rw [if_pos h1] at h; cases h
  · rw [if_neg h1, if_neg (fun h2 => h2 hR)] at h
    by_cases h3 : ¬ (Ss.length ≤ maxH eps.toNat 4294967296 ∧ (Ss.length = 0 ↔ K.length = 0))
    · rw [if_pos h3] at h; cases h
    · rw [if_neg h3] at h
      have h4 := Decidable.not_not.1 h3
      refine ⟨?_, Decidable.not_not.1 h1, h4.2, h4.1⟩
      cases Ss with
      | nil => exact fun l hl => by simp at hl
      | cons S Ss =>
        have hz : ((S :: Ss).length == 0) = false := rfl
        rw [hz] at h
        have h5 : K.length ≠ 0 := fun h6 => by have := h4.2.2 h6; simp at this
        exact tower_of hR hK hl (by omega) hf h
end Go.Proofs.YthjimnmgbcckjaaGreat
namespace Go.Proofs.YthjimnmgbcckjaaGreat
set_option maxRecDepth 100000
open Go.RowKit Go.Inc Go.Run
attribute [local go_sem] run_store_float

structure Down (K : List Int) (Ss : List (List Seg)) (k : Int) (a0 : Int) (b0 : Bool) (g6 g7 : Nat) (w0 w : World) (j at_ : Nat) : Prop where
  fr : Fr w0 w
  cells : ∃ (a : Int) (b : Bool), w.heap[g6]? = some (.cells #[.int .i64 a] 3) ∧ w.heap[g7]? = some (.cells #[.bool b] 4) ∧ (j = Ss.length → a = a0 ∧ b = b0) ∧ (j < Ss.length → ∃ r, IsRank (lvK K Ss j) k r ∧ a = (r : Nat) ∧ b = decide (r < (lvK K Ss j).length ∧ ky (lvK K Ss j) r = k))
  cov : 0 < j → Cover (lvK K Ss j) k at_

set_option maxHeartbeats 4000000 in
theorem desc_calls (p : Nat) (eps : Int) (K : List Int) (Ss : List (List Seg)) (k : Int) (g6 g7 : Nat) (a0 : Int) (b0 : Bool) (w0 w : World) (hP : PileR w0 p eps K Ss) (hf : Fr w0 w) (hg6 : w0.heap.size ≤ g6) (hg7 : w0.heap.size ≤ g7) (hne : g6 ≠ g7)
    (h6 : w.heap[g6]? = some (.cells #[.int .i64 a0] 3)) (h7 : w.heap[g7]? = some (.cells #[.bool b0] 4))
    (hT : Tower eps K Ss) (he : 2 ≤ eps ∧ eps ≤ 64) (hB : K.length ≤ 4294967296 ∧ ∀ S ∈ Ss, S.length ≤ 4294967296) (hl : Ss.length ≤ 4294967296) (hk : 0 ≤ k ∧ k < 18446744073709551616) :
    Calls Tryz.prog 83 #[.pointer (some ⟨p, 0, none⟩), .int .u64 k, .func (.func 84) #[] #[.pointer (some ⟨g6, 0, none⟩), .pointer (some ⟨g7, 0, none⟩)]] w fun e w' => e = .returned (.tuple #[]) ∧ ∃ a_, Down K Ss k a0 b0 g6 g7 w0 w' 0 a_ := by
  have HP : Hid (∀ w', Fr w0 w' → PileR w' p eps K Ss) := fun w' h => hP.fr h
  have HT := Lib.hid hT
  have HB := Lib.hid hB
  have H67 := Lib.hid (And.intro h6 h7)
  have HF := Lib.hid hf
  clear hP hT hB hf h6 h7
  have m1 : ∀ (N : Nat) (w : World), (method (N + 1) 43 (.pointer (some ⟨p, 0, none⟩)) "Eps").run Tryz.prog w = .ok (17, .pointer (some ⟨p, 0, none⟩)) w := fun _ _ => by kernel_rfl
  have m2 : ∀ (N : Nat) (w : World), (method (N + 1) 43 (.pointer (some ⟨p, 0, none⟩)) "Height").run Tryz.prog w = .ok (199, .pointer (some ⟨p, 0, none⟩)) w := fun _ _ => by kernel_rfl
  have m3 : ∀ (N : Nat) (w : World), (method (N + 1) 43 (.pointer (some ⟨p, 0, none⟩)) "Segment").run Tryz.prog w = .ok (201, .pointer (some ⟨p, 0, none⟩)) w := fun _ _ => by kernel_rfl
  obtain ⟨N, hN⟩ : ∃ N, Ss.length = N := ⟨_, rfl⟩
  have HN := Lib.hid hN
  have HE : Hid (∀ w', Fr w0 w' → Calls Tryz.prog 17 #[.pointer (some ⟨p, 0, none⟩)] w' fun e w'' => e = .returned (.int .i64 eps) ∧ w'' = w') := fun w' h => peps_calls p eps K Ss w' (HP.out w' h)
  have HH : Hid (∀ w', Fr w0 w' → Calls Tryz.prog 199 #[.pointer (some ⟨p, 0, none⟩)] w' fun e w'' => e = .returned (.int .i64 (N : Nat)) ∧ w'' = w') := fun w' h => by
    have := pheight_calls p eps K Ss w' (HP.out w' h)
    rw [hN] at this
    exact this
  rw [hN] at hl
  have wh : IntKind.i64.wrap ((N : Int) - 1) = (N : Int) - 1 := wrap_i64_in _ (by omega) (by omega)
  clear hN
  go_enter Tryz.func83, Tryz.ntmps83
  go_wp2_with fail
  refine (HE.out w HF.out).mono ?_
  rintro _ w1 ⟨rfl, hw1⟩
  subst hw1
  go_wp2_with fail
  refine (HH.out w1 HF.out).mono ?_
  rintro _ w2 ⟨rfl, hw2⟩
  subst hw2
  go_wp2_with fail
  go_loopw [6, 8] (fun v6 v8 wr => ∃ (j a : Nat) (lv : Int), v6 = .int .i64 a ∧ v8 = .int .i64 lv ∧ lv = (j : Int) - 1 ∧ j ≤ N ∧ Hid (Down K Ss k a0 b0 g6 g7 w0 wr j a)) (fun _ v8 _ => (intOf v8 + 1).toNat)
  case atStart =>
    refine ⟨N, 0, _, rfl, rfl, rfl, by omega, ?_⟩
    refine ⟨HF.out, ⟨a0, b0, H67.out.1, H67.out.2, fun _ => ⟨rfl, rfl⟩, fun h => by have := HN.out; omega⟩, fun h => ?_⟩
    obtain ⟨l, rfl⟩ : ∃ l, N = l + 1 := ⟨N - 1, by omega⟩
    have hl := HT.out l (by have := HN.out; omega)
    have h1 := hl.2.2.2.2.2 (by rw [HN.out])
    have h2 : lvK K Ss (l + 1) = firstsOf (Ss[l]'(by have := HN.out; omega)) := by
      show firstsOf (Ss.getD l []) = _
      rw [List.getD_eq_getElem?_getD, List.getElem?_eq_getElem]; rfl
    rw [h2]
    exact ⟨by rw [firsts_len]; omega, .inl rfl, fun h => by rw [firsts_len] at h; omega⟩
  case round =>
    obtain ⟨j, a, lv, rfl, rfl, rfl, hj, hd⟩ := hrel
    rcases Nat.eq_zero_or_pos j with rfl | hpos
    · go_wp2_with fail
      go_end0
      exact ⟨rfl, a, hd.out⟩
    · obtain ⟨l, rfl⟩ : ∃ l, j = l + 1 := ⟨j - 1, by omega⟩
      rw [show ((l + 1 : Nat) : Int) - 1 = (l : Int) by omega]
      have wl : IntKind.i64.wrap ((l : Int) + 1) = (l : Int) + 1 := wrap_i64_in _ (by omega) (by omega)
      have hlN : l < Ss.length := by have := HN.out; omega
      obtain ⟨S, hS⟩ : ∃ S, Ss[l] = S := ⟨_, rfl⟩
      have hSm : S ∈ Ss := by rw [← hS]; exact List.getElem_mem hlN
      obtain ⟨t1, t2, t3, t4, t5, t6⟩ := HT.out l hlN
      rw [hS] at t5 t6
      have hlv : lvK K Ss (l + 1) = firstsOf S := by
        show firstsOf (Ss.getD l []) = _
        rw [List.getD_eq_getElem?_getD, List.getElem?_eq_getElem hlN, ← hS]; rfl
      have hcov := hd.out.cov (by omega)
      rw [hlv] at hcov
      have haS : a < S.length := by have := hcov.lt; rw [firsts_len] at this; exact this
      obtain ⟨r, hr⟩ := rank_ex t1 k
      have hw := window he t1 t5 hcov hr haS
      obtain ⟨s, hs⟩ : ∃ s, S[a] = s := ⟨_, rfl⟩
      rw [hs] at hw
      have hrow : rowAt Ss ((l : Int) + 1) = S := by
        unfold rowAt
        rw [Int.add_sub_cancel, Int.toNat_natCast, List.getD_eq_getElem?_getD, List.getElem?_eq_getElem hlN, ← hS]; rfl
      have hsv : segV K Ss ((l : Int) + 1) (a : Int) = s := by rw [segV_row hlN hrow haS, hs]
      have HSEG : Hid (∀ w', Fr w0 w' → Calls Tryz.prog 201 #[.pointer (some ⟨p, 0, none⟩), .int .i64 ((l : Int) + 1), .int .i64 (a : Nat)] w' fun e w'' => e = .returned (segVal s) ∧ Fr w' w'') := by
        intro w' h
        have h1 := pseg_calls p eps K Ss ((l : Int) + 1) (a : Nat) (by omega) (by have := HB.out.2 S hSm; omega) w' (HP.out w' h) HB.out
        rw [hsv] at h1
        exact h1
      have HW := Lib.hid hw
      have HRK := Lib.hid hr
      have HLV := Lib.hid hlv
      have HGU : Hid (∀ w', Calls Tryz.prog 85 #[segVal s, .int .u64 k] w' fun e w'' => e = .returned (.int .i64 (guessV s k)) ∧ Fr w' w'') := fun w' => guess_calls s k hw.fit hw.ok hk w'
      have HLEN := Lib.hid t3
      have HAS := Lib.hid haS
      have HSL := Lib.hid (HB.out.2 S hSm)
      have HLOOK : Hid (∀ (lo hi up : Nat) w', Fr w0 w' → max s.frm (guessV s k - eps - 1) = (lo : Int) → min s.upto (guessV s k + eps + 1) = (hi : Int) → s.upto = (up : Int) →
          Calls Tryz.prog 107 #[.pointer (some ⟨p, 0, none⟩), .int .i64 (l : Nat), .int .i64 lo, .int .i64 hi, .int .i64 up, .int .u64 k] w' fun e w'' => e = .returned (.tuple #[.int .i64 (r : Nat), .bool (decide (r < (lvK K Ss l).length ∧ ky (lvK K Ss l) r = k))]) ∧ w'' = w') := by
        intro lo hi up w' hfw e1 e2 e3
        have hlen := hw.len
        have h1 := hw.lo
        have h2 := hw.hi
        have kv : ∀ i : Nat, i < (lvK K Ss l).length → keyV K Ss (l : Int) (i : Int) = ky (lvK K Ss l) i := fun i hi => keyV_lvK (by omega) hi
        have h5 := look_calls p eps K Ss (l : Nat) lo hi up r k (by omega) (by omega) (by omega) (by omega) (by omega) (fun i _ hi => by rw [kv i (by have := hr.le; omega)]; exact hr.bel i hi) (fun i hi hi' => by rw [kv i (by omega)]; exact hr.abo i hi (by omega)) w' (HP.out w' hfw) HB.out
        have h6 : decide ((r < hi ∨ r < up) ∧ keyV K Ss (l : Int) (r : Nat) = k) = decide (r < (lvK K Ss l).length ∧ ky (lvK K Ss l) r = k) := by
          have h7 := hw.ex
          rw [e2, e3] at h7
          rw [← h7]
          by_cases h8 : r < hi ∨ r < up
          · rw [kv r (by omega)]
            congr 1
            simp only [Int.ofNat_lt]
          · rw [decide_eq_false (fun q => h8 q.1), decide_eq_false (fun q => h8 (by have := q.1; omega))]
        rw [h6] at h5
        exact h5
      obtain ⟨sf, sl, it, fn, un⟩ := s
      unfold segVal at HSEG HGU
      dsimp only at HSEG HGU
      clear t1 t2 t3 t4 t5 t6 hlv hcov haS hr hw hs hrow hsv hS hSm
      obtain ⟨g, hg⟩ : ∃ g, guessV ⟨sf, sl, it, fn, un⟩ k = g := ⟨_, rfl⟩
      rw [hg] at HGU
      have HG := Lib.hid hg
      have HD := hd
      clear hg hlN
      go_wp2_with fail
      refine (HSEG.out wr HD.out.fr).mono ?_
      rintro _ w3 ⟨rfl, hf3⟩
      have HF3 : Hid (Fr wr w3) := hf3
      clear hf3
      have hb9 := heap_alloc_new w3 (.cells #[.int .u64 sf, .float .f64 sl, .float .f64 it, .int .i64 fn, .int .i64 un] 65)
      obtain ⟨x0, x1, x2, x3, x4⟩ := cells5 hb9
      have HB9 := Lib.hid hb9
      clear hb9
      go_wp2_with fail
      obtain ⟨w4, hw4⟩ : ∃ w4, w4 = w3.alloc (.cells #[.int .u64 sf, .float .f64 sl, .float .f64 it, .int .i64 fn, .int .i64 un] 65) := ⟨_, rfl⟩
      have HF4 : Hid (Fr wr w4) := by rw [hw4]; exact HF3.out.alloc _
      obtain ⟨b9, hb9⟩ : ∃ b9, b9 = w3.heap.size := ⟨_, rfl⟩
      have H9 : Hid (wr.heap.size ≤ b9) := by rw [hb9]; exact HF3.out.size
      rw [← hw4, ← hb9] at HB9 ⊢
      clear hw4 hb9 x0 x1 x2 x3 x4
      refine (HGU.out w4).mono ?_
      rintro _ w5 ⟨rfl, hf5⟩
      have HF5 : Hid (Fr wr w5) := HF4.out.trans hf5
      have HB9' : Hid (w5.heap[b9]? = some (.cells #[.int .u64 sf, .float .f64 sl, .float .f64 it, .int .i64 fn, .int .i64 un] 65)) := hf5.blk HB9.out
      clear hf5 HB9
      have hbx := heap_alloc_new w5 (.cells #[.int .i64 (l : Int), .int .i64 (a : Int), .int .i64 g, .int .i64 0, .int .i64 0, .int .i64 0] 61)
      obtain ⟨w6, hw6⟩ : ∃ w6, w6 = w5.alloc (.cells #[.int .i64 (l : Int), .int .i64 (a : Int), .int .i64 g, .int .i64 0, .int .i64 0, .int .i64 0] 61) := ⟨_, rfl⟩
      have HF6 : Hid (Fr wr w6) := by rw [hw6]; exact HF5.out.alloc _
      have HB6 : Hid (w6.heap[b9]? = some (.cells #[.int .u64 sf, .float .f64 sl, .float .f64 it, .int .i64 fn, .int .i64 un] 65)) := by rw [hw6]; exact ((Fr.refl w5).alloc _).blk HB9'.out
      rw [← hw6] at hbx
      have HBX := Lib.hid hbx
      have HW6 := Lib.hid hw6
      clear hw6
      have hgi := guess_in HW.out.ok k
      rw [HG.out] at hgi
      have hf0 := HW.out.frm
      have hun := HW.out.len
      have hle := HLEN.out
      dsimp only at hgi hf0 hun
      have q1 : IntKind.i64.wrap (g - eps) = g - eps := wrap_i64_in _ (by omega) (by omega)
      have q2 : IntKind.i64.wrap (g - eps - 1) = g - eps - 1 := wrap_i64_in _ (by omega) (by omega)
      have q3 : IntKind.i64.wrap (g + eps) = g + eps := wrap_i64_in _ (by omega) (by omega)
      have q4 : IntKind.i64.wrap (g + eps + 1) = g + eps + 1 := wrap_i64_in _ (by omega) (by omega)
      have HGI := Lib.hid (And.intro hgi (And.intro hf0 (And.intro hun hle)))
      clear hbx hgi hf0 hun hle
      go_wp2_with fail
      rw [← HW6.out]
      obtain ⟨x0, x1, x2, x3, x4⟩ := cells5 HB6.out
      obtain ⟨bx, hbx⟩ : ∃ bx, bx = w5.heap.size := ⟨_, rfl⟩
      rw [← hbx] at HBX ⊢
      have HX : Hid (w5.heap.size ≤ bx) := by rw [Hid]; omega
      clear hbx
      have y2 : w6.cell? ⟨bx, 2, none⟩ = some (.int .i64 g) := blk_cell HBX.out 2
      have y3 : w6.cell? ⟨bx, 3, none⟩ = some (.int .i64 0) := blk_cell HBX.out 3
      have y4 : w6.cell? ⟨bx, 4, none⟩ = some (.int .i64 0) := blk_cell HBX.out 4
      have z3 := blk_frozen HBX.out 3
      have z4 := blk_frozen HBX.out 4
      have hbb : bx ≠ b9 := by
        have h1 := (Array.getElem?_eq_some_iff.1 HB9'.out).1
        have := HX.out
        omega
      go_region_held3 (fun w' => w'.cell? ⟨b9, 3, none⟩ = some (.int .i64 fn) ∧ w'.cell? ⟨b9, 4, none⟩ = some (.int .i64 un) ∧ w'.cell? ⟨bx, 2, none⟩ = some (.int .i64 g))
        (first | exact ⟨x3, x4, y2⟩ | exact ⟨blk_cell (drew_blk2 (blk_set_ne HB6.out (p := ⟨bx, 3, none⟩) hbb _)) 3, blk_cell (drew_blk2 (blk_set_ne HB6.out (p := ⟨bx, 3, none⟩) hbb _)) 4, blk_cell (drew_blk2 (blk_set HBX.out 3 _)) 2⟩ | exact ⟨blk_cell (drew_blk2 (blk_set_ne (blk_set_ne HB6.out (p := ⟨bx, 3, none⟩) hbb _) (p := ⟨bx, 4, none⟩) hbb _)) 3, blk_cell (drew_blk2 (blk_set_ne (blk_set_ne HB6.out (p := ⟨bx, 3, none⟩) hbb _) (p := ⟨bx, 4, none⟩) hbb _)) 4, blk_cell (drew_blk2 (blk_set (blk_set HBX.out 3 _) 4 _)) 2⟩)
        (first | fail "no")
      all_goals
        have hx : wr.heap.size ≤ bx := Nat.le_trans HF5.out.size HX.out
        obtain ⟨lo, hlo⟩ : ∃ lo : Nat, max fn (g - eps - 1) = (lo : Int) := ⟨(max fn (g - eps - 1)).toNat, by have := HGI.out.2.1; omega⟩
        obtain ⟨hi, hhi⟩ : ∃ hi : Nat, min un (g + eps + 1) = (hi : Int) := ⟨(min un (g + eps + 1)).toNat, by have := HGI.out.1; have := HGI.out.2.1; omega⟩
        obtain ⟨up, hup⟩ : ∃ up : Nat, un = (up : Int) := ⟨un.toNat, by have := HGI.out.1; have := HGI.out.2.1; omega⟩
        rw [hlo, hhi]
        obtain ⟨w7, hw7⟩ : ∃ w7, w7 = ((w6.setCell ⟨bx, 3, none⟩ (.int .i64 (lo : Int))).setCell ⟨bx, 4, none⟩ (.int .i64 (hi : Int))).drew := ⟨_, rfl⟩
        have HB7 : Hid (w7.heap[b9]? = some (.cells #[.int .u64 sf, .float .f64 sl, .float .f64 it, .int .i64 fn, .int .i64 un] 65)) := by rw [hw7]; exact drew_blk2 (blk_set_ne (blk_set_ne HB6.out (p := ⟨bx, 3, none⟩) hbb _) (p := ⟨bx, 4, none⟩) hbb _)
        have HBX7 : Hid (w7.heap[bx]? = some (.cells #[.int .i64 (l : Int), .int .i64 (a : Int), .int .i64 g, .int .i64 (lo : Int), .int .i64 (hi : Int), .int .i64 0] 61)) := by rw [hw7]; exact drew_blk2 (blk_set (blk_set HBX.out 3 _) 4 _)
        have HF7 : Hid (Fr wr w7) := by rw [hw7]; exact ((HF6.out.set (p := ⟨bx, 3, none⟩) hx _).set (p := ⟨bx, 4, none⟩) hx _).drew
        rw [← hw7]
        have HLO := Lib.hid hlo
        have HHI := Lib.hid hhi
        have HUP := Lib.hid hup
        clear hw7 hlo hhi hup x0 x1 x2 x3 x4 y2 y3 y4 z3 z4
        obtain ⟨x0, x1, x2, x3, x4⟩ := cells5 HB7.out
        have y3 : w7.cell? ⟨bx, 3, none⟩ = some (.int .i64 (lo : Int)) := blk_cell HBX7.out 3
        have y4 : w7.cell? ⟨bx, 4, none⟩ = some (.int .i64 (hi : Int)) := blk_cell HBX7.out 4
        go_wp2_with fail
        refine (show Calls Tryz.prog 107 #[.pointer (some ⟨p, 0, none⟩), .int .i64 (l : Nat), .int .i64 lo, .int .i64 hi, .int .i64 un, .int .u64 k] w7 _ by rw [HUP.out]; exact HLOOK.out lo hi up w7 (HD.out.fr.trans HF7.out) (by rw [HG.out]; exact HLO.out) (by rw [HG.out]; exact HHI.out) HUP.out).mono ?_
        rintro _ w8 ⟨rfl, hw8⟩
        subst hw8
        obtain ⟨ca, cb, h6, h7, _, _⟩ := HD.out.cells
        have hg6l : g6 < wr.heap.size := (Array.getElem?_eq_some_iff.1 h6).1
        have hg7l : g7 < wr.heap.size := (Array.getElem?_eq_some_iff.1 h7).1
        obtain ⟨exx, hexx⟩ : ∃ exx, decide (r < (lvK K Ss l).length ∧ ky (lvK K Ss l) r = k) = exx := ⟨_, rfl⟩
        rw [hexx]
        obtain ⟨w9, hw9⟩ : ∃ w9, w9 = w8.setCell ⟨bx, 5, none⟩ (.int .i64 (r : Nat)) := ⟨_, rfl⟩
        have hb9' := blk_set HBX7.out 5 (.int .i64 (r : Nat))
        have HBX9 : Hid (w9.heap[bx]? = some (.cells #[.int .i64 (l : Int), .int .i64 (a : Int), .int .i64 g, .int .i64 (lo : Int), .int .i64 (hi : Int), .int .i64 (r : Nat)] 61)) := by rw [hw9]; exact hb9'
        have HB9'' : Hid (w9.heap[b9]? = some (.cells #[.int .u64 sf, .float .f64 sl, .float .f64 it, .int .i64 fn, .int .i64 un] 65)) := by rw [hw9]; exact blk_set_ne HB7.out (p := ⟨bx, 5, none⟩) hbb _
        have HF9 : Hid (Fr wr w9) := by rw [hw9]; exact HF7.out.set (p := ⟨bx, 5, none⟩) hx _
        have HFI : Hid (Calls Tryz.prog 84 #[.agg #[.int .i64 (l : Int), .int .i64 (a : Int), .int .i64 g, .int .i64 (lo : Int), .int .i64 (hi : Int), .int .i64 (r : Nat)], .bool exx, .pointer (some ⟨g6, 0, none⟩), .pointer (some ⟨g7, 0, none⟩)] w9 fun e w' => e = .returned (.tuple #[]) ∧ w'.heap[g6]? = some (.cells #[.int .i64 (r : Nat)] 3) ∧ w'.heap[g7]? = some (.cells #[.bool exx] 4) ∧ Mv (two g6 g7) w9 w') :=
          find1_calls _ _ _ _ _ _ _ g6 g7 hne _ _ w9 (HF9.out.blk h6) (HF9.out.blk h7)
        have HW9 := Lib.hid hw9
        have HEX := Lib.hid hexx
        have y5 : w8.cell? ⟨bx, 5, none⟩ = some (.int .i64 0) := blk_cell HBX7.out 5
        have z5 := blk_frozen HBX7.out 5
        rw [hw9] at HBX9
        have c0 : (w8.setCell ⟨bx, 5, none⟩ (.int .i64 (r : Nat))).cell? ⟨bx, 0, none⟩ = some (.int .i64 (l : Int)) := blk_cell HBX9.out 0
        have c1 : (w8.setCell ⟨bx, 5, none⟩ (.int .i64 (r : Nat))).cell? ⟨bx, 1, none⟩ = some (.int .i64 (a : Int)) := blk_cell HBX9.out 1
        have c2 : (w8.setCell ⟨bx, 5, none⟩ (.int .i64 (r : Nat))).cell? ⟨bx, 2, none⟩ = some (.int .i64 g) := blk_cell HBX9.out 2
        have c3 : (w8.setCell ⟨bx, 5, none⟩ (.int .i64 (r : Nat))).cell? ⟨bx, 3, none⟩ = some (.int .i64 (lo : Int)) := blk_cell HBX9.out 3
        have c4 : (w8.setCell ⟨bx, 5, none⟩ (.int .i64 (r : Nat))).cell? ⟨bx, 4, none⟩ = some (.int .i64 (hi : Int)) := blk_cell HBX9.out 4
        have c5 : (w8.setCell ⟨bx, 5, none⟩ (.int .i64 (r : Nat))).cell? ⟨bx, 5, none⟩ = some (.int .i64 (r : Nat)) := blk_cell HBX9.out 5
        have HC67 := Lib.hid (And.intro hg6l hg7l)
        clear h6 h7 hb9' hw9 hexx hg6l hg7l
        go_wp2_with fail
        rw [← HW9.out]
        refine HFI.out.mono ?_
        rintro _ w10 ⟨rfl, k6, k7, hm10⟩
        have hb9f : ¬ two g6 g7 b9 := by
          have h1 := H9.out
          have h2 := HC67.out
          rintro (h | h) <;> omega
        have HK := Lib.hid (And.intro k6 k7)
        have HB10 : Hid (w10.heap[b9]? = some (.cells #[.int .u64 sf, .float .f64 sl, .float .f64 it, .int .i64 fn, .int .i64 un] 65)) := hm10.blk HB9''.out hb9f
        have HF10 : Hid (Fr w0 w10) := (HD.out.fr.trans HF9.out).mv hm10 (fun i hi => by rcases hi with h | h <;> omega)
        clear k6 k7 hm10 x0 x1 x2 x3 x4 y3 y4 y5 z5 c0 c1 c2 c3 c4 c5 hb9f
        obtain ⟨x0, x1, x2, x3, x4⟩ := cells5 HB10.out
        have hrl : r ≤ 4294967296 := by have := HRK.out.le; have := HLEN.out; omega
        have wr1 : IntKind.i64.wrap ((r : Int) - 1) = (r : Int) - 1 := wrap_i64_in _ (by omega) (by omega)
        have hf0 : 0 ≤ fn := HGI.out.2.1
        obtain ⟨b, hb⟩ : ∃ b : Nat, max ((r : Int) - 1) fn = (b : Int) := ⟨(max ((r : Int) - 1) fn).toNat, by omega⟩
        have HBB := Lib.hid hb
        clear hb
        have HDN : Hid (∀ at_, (0 < l → Cover (lvK K Ss l) k at_) → Down K Ss k a0 b0 g6 g7 w0 w10 l at_) := fun at_ hat =>
          ⟨HF10.out, ⟨_, _, HK.out.1, HK.out.2, fun h => by have := HN.out; omega, fun _ => ⟨r, HRK.out, rfl, HEX.out.symm⟩⟩, hat⟩
        cases exx with
        | true =>
          go_wp2_with fail
          have hx := of_decide_eq_true HEX.out
          exact ⟨⟨l, r, _, rfl, rfl, rfl, by omega, HDN.out r (fun _ => HW.out.next1 hx.1 hx.2)⟩, by simp only [intOf]; omega⟩
        | false =>
          go_wp2_with fail
          have hx := of_decide_eq_false HEX.out
          have h9 := HW.out.next2 hx
          have e9 : (max ((r : Int) - 1) fn).toNat = b := by rw [HBB.out]; exact Int.toNat_natCast b
          dsimp only at h9
          rw [e9] at h9
          exact ⟨⟨l, b, _, by rw [HBB.out], rfl, rfl, by omega, HDN.out b (fun _ => h9)⟩, by simp only [intOf]; omega⟩
end Go.Proofs.YthjimnmgbcckjaaGreat
namespace Go.Proofs.YthjimnmgbcckjaaGreat
set_option maxRecDepth 100000
open Go.RowKit Go.Inc Go.Run
attribute [local go_sem] run_store_float

/-- What a run is, beside its memory: its keys rise, its levels are taken. -/
structure RunOk (eps : Int) (K : List Int) (Ss : List (List Seg)) : Prop where
  rise : Rise K
  keys : KeysOk K
  len : K.length ≤ 4294967296
  rows : ∀ S ∈ Ss, S.length ≤ 4294967296 ∧ ∀ s ∈ S, SegFit s
  chk : checkV eps K Ss = 0
theorem maxH_small {e : Nat} (he : 2 ≤ e) : maxH e 4294967296 ≤ 4294967296 := maxH_le he _
theorem RunOk.tower {eps : Int} {K : List Int} {Ss : List (List Seg)} (h : RunOk eps K Ss) : Tower eps K Ss ∧ (2 ≤ eps ∧ eps ≤ 64) ∧ (Ss.length = 0 ↔ K.length = 0) ∧ Ss.length ≤ 4294967296 := by
  obtain ⟨h1, h2, h3, h4⟩ := Go.Proofs.YthjimnmgbcckjaaGreat.tower h.rise h.keys h.len (fun S hS => (h.rows S hS).2) h.chk
  exact ⟨h1, h2, h3, Nat.le_trans h4 (maxH_le (by omega) _)⟩

theorem find_end {K : List Int} {Ss : List (List Seg)} {k a : Int} {b : Bool} (hz : Ss.length = 0 ↔ K.length = 0) (h1 : 0 = Ss.length → a = 0 ∧ b = false)
    (h2 : 0 < Ss.length → ∃ r, IsRank (lvK K Ss 0) k r ∧ a = (r : Nat) ∧ b = decide (r < (lvK K Ss 0).length ∧ ky (lvK K Ss 0) r = k)) : ∃ r, IsRank K k r ∧ a = (r : Nat) ∧ b = decide (r < K.length ∧ ky K r = k) := by
  rcases Nat.eq_zero_or_pos Ss.length with h | h
  · obtain ⟨rfl, rfl⟩ := h1 h.symm
    have h3 := hz.1 h
    exact ⟨0, ⟨by omega, fun i hi => by omega, fun i _ hi => by omega⟩, rfl, (decide_eq_false (fun q => by omega)).symm⟩
  · exact h2 h
set_option maxHeartbeats 1000000 in
theorem find_calls (p : Nat) (eps : Int) (K : List Int) (Ss : List (List Seg)) (k : Int) (w : World) (hP : PileR w p eps K Ss) (hO : RunOk eps K Ss) (hk : 0 ≤ k ∧ k < 18446744073709551616) :
    Calls Tryz.prog 55 #[.pointer (some ⟨p, 0, none⟩), .int .u64 k] w fun e w' => Fr w w' ∧ ∃ r, IsRank K k r ∧ e = .returned (.tuple #[.int .i64 (r : Nat), .bool (decide (r < K.length ∧ ky K r = k))]) := by
  obtain ⟨hT, he, hz, hl⟩ := hO.tower
  have hmf : ∀ (fn : Fn) (first cap : Array Value) (w : World), (Instr.makeFunc fn first cap).run Tryz.prog w = .ok (.func fn first cap) w := fun _ _ _ _ => rfl
  obtain ⟨w1, hw1⟩ : ∃ w1, w1 = ((w.alloc (.cells #[.int .i64 0] 3)).alloc (.cells #[.bool false] 4)) := ⟨_, rfl⟩
  obtain ⟨g, hg⟩ : ∃ g, g = w.heap.size := ⟨_, rfl⟩
  have hf0 : Fr w w1 := by rw [hw1]; exact ((Fr.refl w).alloc _).alloc _
  have hb6 : (((w.alloc (.cells #[.int .i64 0] 3)).alloc (.cells #[.bool false] 4)).heap[w.heap.size]? = some (.cells #[.int .i64 0] 3 (0, 0))) := ((Fr.refl _).alloc _).blk (heap_alloc_new w _)
  have hb7 : (((w.alloc (.cells #[.int .i64 0] 3)).alloc (.cells #[.bool false] 4)).heap[w.heap.size + 1]? = some (.cells #[.bool false] 4 (0, 0))) := by
    have := heap_alloc_new (w.alloc (.cells #[.int .i64 0] 3)) (.cells #[.bool false] 4)
    simpa using this
  have y6 : ((w.alloc (.cells #[.int .i64 0] 3)).alloc (.cells #[.bool false] 4)).cell? ⟨w.heap.size, 0, none⟩ = some (.int .i64 0) := blk_cell hb6 0
  have y7 : ((w.alloc (.cells #[.int .i64 0] 3)).alloc (.cells #[.bool false] 4)).cell? ⟨w.heap.size + 1, 0, none⟩ = some (.bool false) := blk_cell hb7 0
  have h9 := Lib.hid (And.intro hP (And.intro hO (And.intro hT (And.intro he (And.intro hz (And.intro hl (And.intro hk (And.intro hf0 (And.intro hb6 hb7)))))))))
  have HW := Lib.hid (And.intro hw1 hg)
  clear hP hO hT he hz hl hk hf0 hb6 hb7 hw1 hg
  go_enter Tryz.func55, Tryz.ntmps55
  go_wp2_with fail
  rw [← HW.out.1, ← HW.out.2]
  obtain ⟨hP, hO, hT, he, hz, hl, hk, hf0, hb6, hb7⟩ := h9.out
  rw [← HW.out.1, ← HW.out.2] at hb6 hb7
  have HD := Lib.hid (desc_calls p eps K Ss k g (g + 1) 0 false w w1 hP hf0 (by have := HW.out.2; omega) (by have := HW.out.2; omega) (by omega) hb6 hb7 hT he ⟨hO.len, fun S hS => (hO.rows S hS).1⟩ hl hk)
  clear hP hO hT he hz hl hk hf0 hb6 hb7 y6 y7
  refine HD.out.mono ?_
  rintro _ w2 ⟨rfl, at_, hd⟩
  obtain ⟨a, b, h6, h7, hc1, hc2⟩ := hd.cells
  have HF := Lib.hid hd.fr
  have HC := Lib.hid (And.intro hc1 hc2)
  have y6 : w2.cell? ⟨g, 0, none⟩ = some (.int .i64 a) := blk_cell h6 0
  have y7 : w2.cell? ⟨g + 1, 0, none⟩ = some (.bool b) := blk_cell h7 0
  clear hd h6 h7 hc1 hc2
  go_wp2_with fail
  go_quiet (fail)
  go_wp2_with fail
  go_ret2
  refine ⟨HF.out.drewN _, ?_⟩
  obtain ⟨hP, hO, hT, he, hz, hl, hk, hf0, hb6, hb7⟩ := h9.out
  obtain ⟨r, h1, h2, h3⟩ := find_end hz HC.out.1 HC.out.2
  exact ⟨r, h1, by rw [h2, h3]; rfl⟩
end Go.Proofs.YthjimnmgbcckjaaGreat
namespace Go.Proofs.YthjimnmgbcckjaaGreat
set_option maxRecDepth 100000
open Go.RowKit Go.Inc Go.Run
attribute [local go_sem] run_store_float

def entV (e : Ent) : Value := .agg #[.int .u64 e.key, .int .u64 e.val, .bool e.gone]
def ent0 : Ent := ⟨0, 0, false⟩
/-- A run, as it is read. -/
structure RunR (w : World) (r p : Nat) (eps : Int) (E : List Ent) (Ss : List (List Seg)) : Prop where
  pile : PileR w p eps (keysE E) Ss
  ptr : w.cell? ⟨r, 0, none⟩ = some (.pointer (some ⟨p, 0, none⟩))
  ents : ∃ (Ae : Option Addr) (ce : Nat), w.cell? ⟨r, 1, none⟩ = some (.slice Ae E.length ce) ∧ E.length ≤ ce ∧ RdC w Ae (E.flatMap encells)
  levels : ∃ (Al : Option Addr) (cl : Nat) (vs : List Value), w.cell? ⟨r, 2, none⟩ = some (.slice Al Ss.length cl) ∧ RdC w Al vs ∧ RowsR w vs Ss
theorem RunR.fr {w w' : World} {r p : Nat} {eps : Int} {E : List Ent} {Ss : List (List Seg)} (h : RunR w r p eps E Ss) (hf : Fr w w') : RunR w' r p eps E Ss := by
  obtain ⟨h1, h2, ⟨Ae, ce, h3, h4, h5⟩, ⟨Al, cl, vs, h6, h7, h8⟩⟩ := h
  exact ⟨h1.fr hf, hf.cell h2, ⟨Ae, ce, hf.cell h3, h4, h5.fr hf⟩, ⟨Al, cl, vs, hf.cell h6, h7.fr hf, h8.fr hf⟩⟩
theorem IsRun.toR {w : World} {r base : Nat} {eps : Int} {E : List Ent} {Ss : List (List Seg)} (h : IsRun w r base eps E Ss) : ∃ p, RunR w r p eps E Ss := by
  obtain ⟨p, Ae, ce, Al, cl, vs, h1, h2, h3, h4, h5, h6⟩ := h
  obtain ⟨x0, x1, x2⟩ := cells3 h2
  exact ⟨p, h3.toR, x0, ⟨Ae, ce, x1, own_le h4, h4.rd⟩, ⟨Al, cl, vs, x2, h5.rd, h6.toR⟩⟩

theorem rlen_calls (r p : Nat) (eps : Int) (E : List Ent) (Ss : List (List Seg)) (w : World) (h : RunR w r p eps E Ss) : Calls Tryz.prog 25 #[.pointer (some ⟨r, 0, none⟩)] w fun e w' => e = .returned (.int .i64 (E.length : Nat)) ∧ w' = w := by
  obtain ⟨Ae, ce, h1, h2, h3⟩ := h.ents
  clear h h2 h3
  obtain ⟨N, hN⟩ : ∃ N, E.length = N := ⟨_, rfl⟩
  rw [hN] at h1 ⊢
  clear hN
  go_enter Tryz.func25, Tryz.ntmps25
  go_wp2_with fail
  go_ret
  exact ⟨rfl, rfl⟩
theorem rlist_calls (r p : Nat) (eps : Int) (E : List Ent) (Ss : List (List Seg)) (hl : E.length ≤ 268435456) (base : Nat) (w : World) (hb : base ≤ w.heap.size) (h : RunR w r p eps E Ss) : Calls Tryz.prog 14 #[.pointer (some ⟨r, 0, none⟩)] w fun e w' => ∃ A' c', e = .returned (.slice A' E.length c') ∧ Own w' base 52 3 A' E.length c' (E.flatMap encells) ∧ Fr w w' := by
  obtain ⟨Ae, ce, h1, h2, h3⟩ := h.ents
  have CL := Lib.hid (clE_calls E Ae E.length ce rfl hl base w hb h3)
  obtain ⟨N, hN⟩ : ∃ N, E.length = N := ⟨_, rfl⟩
  rw [hN] at h1 CL ⊢
  clear h h2 h3 hN hl
  go_enter Tryz.func14, Tryz.ntmps14
  go_wp2_with fail
  refine CL.out.mono ?_
  rintro _ w2 ⟨A', c', rfl, hown, hf⟩
  have HO := Lib.hid hown
  have HF := Lib.hid hf
  clear hown hf
  go_wp2_with fail
  go_ret
  exact ⟨A', c', rfl, HO.out, HF.out⟩
theorem rlevels_calls (r p : Nat) (eps : Int) (E : List Ent) (Ss : List (List Seg)) (hN : Ss.length ≤ 268435456) (hS : ∀ S ∈ Ss, S.length ≤ 268435456) (base : Nat) (w : World) (hb : base ≤ w.heap.size) (h : RunR w r p eps E Ss) : Calls Tryz.prog 15 #[.pointer (some ⟨r, 0, none⟩)] w fun e w' => ∃ g us, e = .returned (.slice (some ⟨g, 0, none⟩) Ss.length Ss.length) ∧ base ≤ g ∧ Blk w' g us 62 ∧ us.length = Ss.length ∧ RowsO w' base us Ss ∧ Fr w w' := by
  obtain ⟨Al, cl, vs, h1, h2, h3⟩ := h.levels
  have CL := Lib.hid (copied_calls Al Ss.length cl vs Ss rfl hN hS base w hb h2 h3)
  obtain ⟨N, hN'⟩ : ∃ N, Ss.length = N := ⟨_, rfl⟩
  rw [hN'] at h1 CL ⊢
  clear h h2 h3 hN' hN hS
  go_enter Tryz.func15, Tryz.ntmps15
  go_wp2_with fail
  refine CL.out.mono ?_
  rintro _ w2 ⟨g, us, rfl, h4, h5, h6, h7, hf⟩
  have HO := Lib.hid (And.intro h4 (And.intro h5 (And.intro h6 (And.intro h7 hf))))
  clear h4 h5 h6 h7 hf
  go_wp2_with fail
  go_ret
  exact ⟨g, us, rfl, HO.out⟩
theorem rrank_calls (r p : Nat) (eps : Int) (E : List Ent) (Ss : List (List Seg)) (k : Int) (w : World) (h : RunR w r p eps E Ss) (hO : RunOk eps (keysE E) Ss) (hk : 0 ≤ k ∧ k < 18446744073709551616) :
    Calls Tryz.prog 20 #[.pointer (some ⟨r, 0, none⟩), .int .u64 k] w fun e w' => Fr w w' ∧ ∃ n : Nat, IsRank (keysE E) k n ∧ e = .returned (.int .i64 n) := by
  have HF := Lib.hid (find_calls p eps (keysE E) Ss k w h.pile hO hk)
  have h1 := h.ptr
  clear h hO hk
  go_enter Tryz.func20, Tryz.ntmps20
  go_wp2_with fail
  refine HF.out.mono ?_
  rintro _ w2 ⟨hf, n, hn, rfl⟩
  have HN := Lib.hid hn
  have HFF := Lib.hid hf
  clear hn hf
  obtain ⟨b, hb⟩ : ∃ b, decide (n < (keysE E).length ∧ ky (keysE E) n = k) = b := ⟨_, rfl⟩
  rw [hb]
  clear hb
  go_wp2_with fail
  go_ret
  exact ⟨HFF.out, n, HN.out, rfl⟩
/-- An entry that is stored. -/
def setEnt (w : World) (g : Nat) (s : Ent) : World := ((w.setCell ⟨g, 0, none⟩ (.int .u64 s.key)).setCell ⟨g, 1, none⟩ (.int .u64 s.val)).setCell ⟨g, 2, none⟩ (.bool s.gone)
theorem setEnt_blk {w : World} {g : Nat} {a b c : Value} {t : TypeId} (h : w.heap[g]? = some (.cells #[a, b, c] t)) (s : Ent) : (setEnt w g s).heap[g]? = some (.cells #[.int .u64 s.key, .int .u64 s.val, .bool s.gone] t) :=
  blk_set (blk_set (blk_set h 0 (.int .u64 s.key)) 1 (.int .u64 s.val)) 2 (.bool s.gone)
theorem setEnt_fr {w w' : World} {g : Nat} (h : Fr w w') (hg : w.heap.size ≤ g) (s : Ent) : Fr w (setEnt w' g s) :=
  ((h.set (p := ⟨g, 0, none⟩) hg _).set (p := ⟨g, 1, none⟩) hg _).set (p := ⟨g, 2, none⟩) hg _
/-- What At answers. -/
def atV (E : List Ent) (i : Int) : Ent × Int := if 0 ≤ i ∧ i < E.length then (E.getD i.toNat ent0, 0) else (ent0, 1)
def alE : Obj := .cells #[.int .u64 0, .int .u64 0, .bool false] 52
set_option maxHeartbeats 1000000 in
theorem rat_calls (r p : Nat) (eps : Int) (E : List Ent) (Ss : List (List Seg)) (i : Int) (hi : -9223372036854775808 ≤ i ∧ i ≤ 9223372036854775807) (hl : E.length ≤ 4294967296) (w : World) (h : RunR w r p eps E Ss) :
    Calls Tryz.prog 24 #[.pointer (some ⟨r, 0, none⟩), .int .i64 i] w fun e w' => Fr w w' ∧ e = .returned (.tuple #[entV (atV E i).1, .int .i64 (atV E i).2]) := by
  obtain ⟨Ae, ce, h1, h2, h3⟩ := h.ents
  have hb1 := heap_alloc_new w (.cells #[.int .u64 0, .int .u64 0, .bool false] 52)
  have hf1 := (Fr.refl w).alloc (.cells #[.int .u64 0, .int .u64 0, .bool false] 52)
  have h1' := hf1.cell h1
  have z0 := blk_frozen hb1 0
  have z1 := blk_frozen hb1 1
  have z2 := blk_frozen hb1 2
  obtain ⟨x0, x1, x2⟩ := cells3 hb1
  have HB1 := Lib.hid hb1
  have HF1 := Lib.hid hf1
  obtain ⟨N, hN⟩ : ∃ N, E.length = N := ⟨_, rfl⟩
  rw [hN] at h1' hl
  have HN := Lib.hid hN
  clear h hb1 hf1 h1 h2
  by_cases c1 : i < 0
  · have d1 : decide (i < 0) = true := decide_eq_true c1
    have hp : Hid (atV E i = (ent0, 1)) := by rw [Hid]; unfold atV; rw [if_neg (by omega)]
    clear hN
    go_enter Tryz.func24, Tryz.ntmps24
    go_wp2_with fail
    refine bodyPost_ret (results_row_tmp rfl _ _ w.heap.size _ _ (0, 0) _ rfl (heap_alloc_new w _) Tryz.underlying52 rfl (by kernel_rfl) _ rfl) rfl ⟨(Fr.refl w).alloc _, by rw [hp.out]; rfl⟩
  · have d1 : decide (i < 0) = false := decide_eq_false c1
    by_cases c2 : (N : Int) ≤ i
    · have d2 : decide (i ≥ (N : Int)) = true := decide_eq_true c2
      have hp : Hid (atV E i = (ent0, 1)) := by rw [Hid]; unfold atV; rw [if_neg (by omega)]
      clear hN
      go_enter Tryz.func24, Tryz.ntmps24
      go_wp2_with fail
      refine bodyPost_ret (results_row_tmp rfl _ _ w.heap.size _ _ (0, 0) _ rfl (heap_alloc_new w _) Tryz.underlying52 rfl (by kernel_rfl) _ rfl) rfl ⟨(Fr.refl w).alloc _, by rw [hp.out]; rfl⟩
    · have d2 : decide (i ≥ (N : Int)) = false := decide_eq_false c2
      obtain ⟨j, rfl⟩ : ∃ j : Nat, i = j := ⟨i.toNat, by omega⟩
      have hj : j < E.length := by omega
      have hjN : (j : Int) < (N : Int) := by omega
      obtain ⟨x, hx⟩ : ∃ x, E[j] = x := ⟨_, rfl⟩
      have hp : Hid (atV E j = (x, 0)) := by
        rw [Hid]; unfold atV
        rw [if_pos (by omega), Int.toNat_natCast, List.getD_eq_getElem?_getD, List.getElem?_eq_getElem hj, hx]; rfl
      obtain ⟨b, off, hA, hc⟩ := rdc_ent (h3.fr HF1.out) (by omega)
      subst hA
      obtain ⟨y0, y1, y2⟩ := hc j hj
      rw [hx] at y0 y1 y2
      clear hN hx hc hj h3
      go_enter Tryz.func24, Tryz.ntmps24
      go_wp2_with fail
      refine bodyPost_ret (results_row_tmp rfl _ _ w.heap.size _ _ (0, 0) _ rfl (heap_alloc_new w _) Tryz.underlying52 rfl (by kernel_rfl) _ rfl) rfl ⟨(Fr.refl w).alloc _, by rw [hp.out]; rfl⟩
/-- What Get answers. -/
def getV (E : List Ent) (n : Nat) (b : Bool) : Ent := if b then E.getD n ent0 else ent0
set_option maxHeartbeats 1000000 in
theorem rget_calls (r p : Nat) (eps : Int) (E : List Ent) (Ss : List (List Seg)) (k : Int) (w : World) (h : RunR w r p eps E Ss) (hO : RunOk eps (keysE E) Ss) (hk : 0 ≤ k ∧ k < 18446744073709551616) :
    Calls Tryz.prog 19 #[.pointer (some ⟨r, 0, none⟩), .int .u64 k] w fun e w' => Fr w w' ∧ ∃ n : Nat, IsRank (keysE E) k n ∧ e = .returned (.tuple #[entV (getV E n (decide (n < (keysE E).length ∧ ky (keysE E) n = k))), .bool (decide (n < (keysE E).length ∧ ky (keysE E) n = k))]) := by
  have hf1 := (Fr.refl w).alloc (.cells #[.int .u64 0, .int .u64 0, .bool false] 52)
  have HR := Lib.hid (h.fr hf1)
  have HF := Lib.hid (find_calls p eps (keysE E) Ss k _ HR.out.pile hO hk)
  have h1 := HR.out.ptr
  have HB1 := Lib.hid (heap_alloc_new w (.cells #[.int .u64 0, .int .u64 0, .bool false] 52))
  have hll := hO.len
  rw [keysE_len] at hll
  obtain ⟨w1, hw1⟩ : ∃ w1, w1 = w.alloc (.cells #[.int .u64 0, .int .u64 0, .bool false] 52) := ⟨_, rfl⟩
  have HW1 := Lib.hid hw1
  have HF1 := Lib.hid hf1
  rw [← hw1] at HR HF HB1 HF1
  clear h hO hk hf1 hw1
  go_enter Tryz.func19, Tryz.ntmps19
  go_wp2_with fail
  rw [← HW1.out]
  refine HF.out.mono ?_
  rintro _ w2 ⟨hf, n, hn, rfl⟩
  obtain ⟨Ae, ce, h2, h3, h4⟩ := (HR.out.fr hf).ents
  have hb2 := hf.blk HB1.out
  obtain ⟨x0, x1, x2⟩ := cells3 hb2
  have z0 := blk_frozen hb2 0
  have z1 := blk_frozen hb2 1
  have z2 := blk_frozen hb2 2
  have HB2 := Lib.hid hb2
  have HN := Lib.hid hn
  have HF2 := Lib.hid (HF1.out.trans hf)
  clear hn hb2 h1
  obtain ⟨b, hb⟩ : ∃ b, decide (n < (keysE E).length ∧ ky (keysE E) n = k) = b := ⟨_, rfl⟩
  rw [hb]
  have HBB := Lib.hid hb
  cases b with
  | false =>
    clear hb h2 h3 h4 hf hll
    go_wp2_with fail
    refine bodyPost_ret (results_row_tmp rfl _ _ w.heap.size _ _ (0, 0) _ rfl (setEnt_blk HB2.out ent0) Tryz.underlying52 rfl (by kernel_rfl) _ rfl) rfl ⟨setEnt_fr HF2.out (Nat.le_refl _) ent0, n, HN.out, by rw [HBB.out]; rfl⟩
  | true =>
    have hx := of_decide_eq_true hb
    have hlt : n < E.length := by rw [← keysE_len]; exact hx.1
    obtain ⟨x, hx⟩ : ∃ x, E[n] = x := ⟨_, rfl⟩
    obtain ⟨N, hN⟩ : ∃ N, E.length = N := ⟨_, rfl⟩
    rw [hN] at h2 hll
    have hnN : (n : Int) < (N : Int) := by omega
    have hp : Hid (getV E n true = x) := by
      rw [Hid]; unfold getV
      rw [if_pos rfl, List.getD_eq_getElem?_getD, List.getElem?_eq_getElem hlt, hx]; rfl
    obtain ⟨bb, off, hA, hc⟩ := rdc_ent h4 (by omega)
    subst hA
    obtain ⟨y0, y1, y2⟩ := hc n hlt
    rw [hx] at y0 y1 y2
    clear hb hx hc hN h4 hlt hf h3
    go_wp2_with fail
    refine bodyPost_ret (results_row_tmp rfl _ _ w.heap.size _ _ (0, 0) _ rfl (setEnt_blk HB2.out x) Tryz.underlying52 rfl (by kernel_rfl) _ rfl) rfl ⟨setEnt_fr HF2.out (Nat.le_refl _) x, n, HN.out, by rw [HBB.out, hp.out]; rfl⟩
end Go.Proofs.YthjimnmgbcckjaaGreat
