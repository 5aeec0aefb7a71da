/- Parts of this proof, one behind the other: Meter, LookM, DescM, FindM, Bound. -/
import Derived.Test.YtelpbbkmkighfaaGreatQN
import Derived.Test.YtelpbbkmkighfaaGreatQI
namespace Go.Proofs.YtelpbbkmkighfaaGreat
set_option maxRecDepth 100000
open Go.RowKit Go.Inc Go.Run
attribute [local go_sem] run_store_float

def nv (x : Nat) : Value := .int .i64 (x : Int)
/-- A meter that stands: what was there is as it was; it has asked so often. -/
structure MSt (w00 : World) (gm ga r n : Nat) (w : World) (cnt : List Nat) : Prop where
  fr : Fr w00 w
  hm : w.heap[gm]? = some (.cells #[.pointer (some ⟨r, 0, none⟩), .slice (some ⟨ga, 0, none⟩) n n] 80)
  ha : w.heap[ga]? = some (.cells (arr (cnt.map nv)) 3)
  len : cnt.length = n
theorem meps_calls (gm r p : Nat) (eps : Int) (K : List Int) (Ss : List (List Seg)) (w : World) (hm : w.cell? ⟨gm, 0, none⟩ = some (.pointer (some ⟨r, 0, none⟩))) (hr : w.cell? ⟨r, 0, none⟩ = some (.pointer (some ⟨p, 0, none⟩))) (h : PileR w p eps K Ss) :
    Calls Tryz.prog 174 #[.pointer (some ⟨gm, 0, none⟩)] w fun e w' => e = .returned (.int .i64 eps) ∧ w' = w := by
  have PE := Lib.hid (peps_calls p eps K Ss w h)
  clear h
  go_enter Tryz.func174, Tryz.ntmps174
  go_wp2_with fail
  refine PE.out.mono ?_
  rintro _ w1 ⟨rfl, hw⟩
  subst hw
  go_wp2_with fail
  go_ret
  exact ⟨rfl, rfl⟩
theorem mheight_calls (gm r p : Nat) (eps : Int) (K : List Int) (Ss : List (List Seg)) (w : World) (hm : w.cell? ⟨gm, 0, none⟩ = some (.pointer (some ⟨r, 0, none⟩))) (hr : w.cell? ⟨r, 0, none⟩ = some (.pointer (some ⟨p, 0, none⟩))) (h : PileR w p eps K Ss) :
    Calls Tryz.prog 175 #[.pointer (some ⟨gm, 0, none⟩)] w fun e w' => e = .returned (.int .i64 (Ss.length : Nat)) ∧ w' = w := by
  have PE := Lib.hid (pheight_calls p eps K Ss w h)
  obtain ⟨N, hN⟩ : ∃ N, Ss.length = N := ⟨_, rfl⟩
  rw [hN] at PE ⊢
  clear h hN
  go_enter Tryz.func175, Tryz.ntmps175
  go_wp2_with fail
  refine PE.out.mono ?_
  rintro _ w1 ⟨rfl, hw⟩
  subst hw
  go_wp2_with fail
  go_ret
  exact ⟨rfl, rfl⟩
set_option maxHeartbeats 1000000 in
theorem mseg_calls (gm r p : Nat) (eps : Int) (K : List Int) (Ss : List (List Seg)) (l a : Nat) (hl : l ≤ 4294967296) (ha : a ≤ 4294967296) (w : World) (hm : w.cell? ⟨gm, 0, none⟩ = some (.pointer (some ⟨r, 0, none⟩))) (hr : w.cell? ⟨r, 0, none⟩ = some (.pointer (some ⟨p, 0, none⟩))) (h : PileR w p eps K Ss)
    (hB : K.length ≤ 4294967296 ∧ ∀ S ∈ Ss, S.length ≤ 4294967296) :
    Calls Tryz.prog 177 #[.pointer (some ⟨gm, 0, none⟩), .int .i64 ((l : Int) + 1), .int .i64 (a : Nat)] w fun e w' => e = .returned (segVal (segV K Ss ((l : Int) + 1) a)) ∧ Fr w w' := by
  have hf1 := (Fr.refl w).alloc (.cells #[.int .u64 0, .float .f64 0, .float .f64 0, .int .i64 0, .int .i64 0] 47)
  have PE := Lib.hid (pseg_calls p eps K Ss ((l : Int) + 1) (a : Nat) (by omega) (by omega) _ (h.fr hf1) hB)
  obtain ⟨s, hs⟩ : ∃ s, segV K Ss ((l : Int) + 1) a = s := ⟨_, rfl⟩
  rw [hs] at PE ⊢
  have h1 := hf1.cell hm
  have h2 := hf1.cell hr
  have HB1 := Lib.hid (heap_alloc_new w (.cells #[.int .u64 0, .float .f64 0, .float .f64 0, .int .i64 0, .int .i64 0] 47))
  have HF1 := Lib.hid hf1
  clear h hm hr hs hf1
  go_enter Tryz.func177, Tryz.ntmps177
  go_wp2_with fail
  refine PE.out.mono ?_
  rintro _ w2 ⟨rfl, hf2⟩
  have hb2 := hf2.blk HB1.out
  obtain ⟨x0, x1, x2, x3, x4⟩ := cells5 hb2
  have z0 := blk_frozen hb2 0
  have z1 := blk_frozen hb2 1
  have z2 := blk_frozen hb2 2
  have z3 := blk_frozen hb2 3
  have z4 := blk_frozen hb2 4
  have HB2 := Lib.hid hb2
  have HF2 : Hid (Fr w w2) := HF1.out.trans hf2
  clear hb2 hf2
  unfold segVal
  go_wp2_with fail
  refine bodyPost_ret (results_cell_row rfl _ _ w.heap.size _ _ (0, 0) _ rfl (setSeg_blk HB2.out s) Tryz.underlying47 rfl (by kernel_rfl)) rfl ⟨rfl, setSeg_fr HF2.out (Nat.le_refl _) s⟩

set_option maxHeartbeats 1000000 in
theorem mkey_calls (w00 : World) (gm ga r p n : Nat) (eps : Int) (K : List Int) (Ss : List (List Seg)) (hP : ∀ w', Fr w00 w' → PileR w' p eps K Ss ∧ w'.cell? ⟨r, 0, none⟩ = some (.pointer (some ⟨p, 0, none⟩))) (hB : K.length ≤ 4294967296 ∧ ∀ S ∈ Ss, S.length ≤ 4294967296)
    (hga : w00.heap.size ≤ ga) (hne : gm ≠ ga) (cnt : List Nat) (l i x : Nat) (hl : l < n) (hn : n ≤ 8589934592) (hi : i ≤ 4294967296) (hx : x ≤ 17179869184) (w : World) (h : MSt w00 gm ga r n w (cnt.set l x)) :
    Calls Tryz.prog 176 #[.pointer (some ⟨gm, 0, none⟩), .int .i64 (l : Nat), .int .i64 (i : Nat)] w fun e w' => e = .returned (.int .u64 (keyV K Ss l i)) ∧ Mv (one1 ga) w w' ∧ MSt w00 gm ga r n w' (cnt.set l (x + 1)) := by
  have hlen := h.len
  rw [List.length_set] at hlen
  have y0 : w.cell? ⟨gm, 0, none⟩ = some (.pointer (some ⟨r, 0, none⟩)) := blk_cell h.hm 0
  have y1 : w.cell? ⟨gm, 1, none⟩ = some (.slice (some ⟨ga, 0, none⟩) n n) := blk_cell h.hm 1
  have hget : ((cnt.set l x).map nv)[l]? = some (nv x) := by simp [hlen, hl]
  have y2 : w.cell? ⟨ga, l, none⟩ = some (.int .i64 (x : Int)) := by rw [blk_cell h.ha, arr_get]; exact hget
  have z2 := blk_frozen h.ha l
  have ym : (w.setCell ⟨ga, l, none⟩ (.int .i64 ((x : Int) + 1))).heap[gm]? = some (.cells #[.pointer (some ⟨r, 0, none⟩), .slice (some ⟨ga, 0, none⟩) n n] 80) := blk_set_ne h.hm (p := ⟨ga, l, none⟩) (fun e => hne e.symm) _
  have hf : Fr w00 (w.setCell ⟨ga, l, none⟩ (.int .i64 ((x : Int) + 1))) := h.fr.set (p := ⟨ga, l, none⟩) hga _
  obtain ⟨hp1, hp2⟩ := hP _ hf
  have y3 : (w.setCell ⟨ga, l, none⟩ (.int .i64 ((x : Int) + 1))).cell? ⟨gm, 0, none⟩ = some (.pointer (some ⟨r, 0, none⟩)) := blk_cell ym 0
  have PK := Lib.hid (pkey_calls p eps K Ss (l : Nat) (i : Nat) (by omega) (by omega) _ hp1 hB)
  have NEW : Hid (MSt w00 gm ga r n (w.setCell ⟨ga, l, none⟩ (.int .i64 ((x : Int) + 1))) (cnt.set l (x + 1))) := by
    refine ⟨hf, ym, ?_, by rw [List.length_set]; exact hlen⟩
    have h1 := blk_set h.ha l (.int .i64 ((x : Int) + 1))
    rw [arr_set, ← show nv (x + 1) = .int .i64 ((x : Int) + 1) by unfold nv; simp, ← List.map_set, List.set_set] at h1
    exact h1
  obtain ⟨kv, hkv⟩ : ∃ kv, keyV K Ss (l : Nat) (i : Nat) = kv := ⟨_, rfl⟩
  rw [hkv] at PK ⊢
  have g1 : decide (l < n) = true := decide_eq_true hl
  have g1' : (l : Int) < (n : Int) := by omega
  have wx : IntKind.i64.wrap ((x : Int) + 1) = (x : Int) + 1 := wrap_i64_in _ (by omega) (by omega)
  have hne' : ga ≠ r ∨ True := .inr trivial
  clear h hget ym hf hP hkv hlen hp1 hne'
  go_enter Tryz.func176, Tryz.ntmps176
  go_wp2_with fail
  refine PK.out.mono ?_
  rintro _ w2 ⟨rfl, hw⟩
  subst hw
  go_wp2_with fail
  go_ret
  exact ⟨rfl, (Mv.refl (one1 ga) w).set (p := ⟨ga, l, none⟩) (.inl rfl) _, NEW.out⟩
end Go.Proofs.YtelpbbkmkighfaaGreat
namespace Go.Proofs.YtelpbbkmkighfaaGreat
set_option maxRecDepth 100000
open Go.RowKit Go.Inc Go.Run

set_option maxHeartbeats 1000000 in
theorem lookM_calls (w00 : World) (gm ga r0 p n : Nat) (eps : Int) (K : List Int) (Ss : List (List Seg)) (hP : ∀ w', Fr w00 w' → PileR w' p eps K Ss ∧ w'.cell? ⟨r0, 0, none⟩ = some (.pointer (some ⟨p, 0, none⟩))) (hB : K.length ≤ 4294967296 ∧ ∀ S ∈ Ss, S.length ≤ 4294967296)
    (hga : w00.heap.size ≤ ga) (hne : gm ≠ ga) (cnt : List Nat) (l : Nat) (hc0 : ∀ h : l < cnt.length, cnt[l] = 0) (hln : l < n) (hn : n ≤ 8589934592)
    (lo hi up r : Nat) (k : Int) (hlo : lo ≤ r) (hrh : r ≤ hi) (hh : hi ≤ 4294967296) (_hu : up ≤ 4294967296)
    (hbel : ∀ i : Nat, lo ≤ i → i < r → keyV K Ss l i < k) (habo : ∀ i : Nat, r ≤ i → i < hi → k ≤ keyV K Ss l i) (w : World) (h : MSt w00 gm ga r0 n w cnt) :
    Calls Tryz.prog 82 #[.pointer (some ⟨gm, 0, none⟩), .int .i64 l, .int .i64 lo, .int .i64 hi, .int .i64 up, .int .u64 k] w fun e w' => e = .returned (.tuple #[.int .i64 (r : Nat), .bool (decide ((r < hi ∨ r < up) ∧ keyV K Ss l r = k))]) ∧ Mv (one1 ga) w w' ∧ ∃ x, x ≤ hi - lo + 1 ∧ MSt w00 gm ga r0 n w' (cnt.set l x) := by
  have PK : Hid (∀ (i x : Nat) w', i ≤ 4294967296 → x ≤ 17179869184 → MSt w00 gm ga r0 n w' (cnt.set l x) → Calls Tryz.prog 176 #[.pointer (some ⟨gm, 0, none⟩), .int .i64 (l : Nat), .int .i64 (i : Nat)] w' fun e w'' => e = .returned (.int .u64 (keyV K Ss l i)) ∧ Mv (one1 ga) w' w'' ∧ MSt w00 gm ga r0 n w'' (cnt.set l (x + 1))) :=
    fun i x w' hi hx h => mkey_calls w00 gm ga r0 p n eps K Ss hP hB hga hne cnt l i x hln hn hi hx w' h
  have h00 : MSt w00 gm ga r0 n w (cnt.set l 0) := by
    have hl2 : l < cnt.length := by rw [h.len]; exact hln
    have : cnt.set l 0 = cnt := by
      have : cnt.set l cnt[l] = cnt := List.set_getElem_self hl2
      rw [hc0 hl2] at this
      exact this
    rw [this]; exact h
  have HBE := Lib.hid hbel
  have HAB := Lib.hid habo
  have H00 := Lib.hid h00
  obtain ⟨kv, hkv⟩ : ∃ kv : Nat → Int, ∀ i : Nat, keyV K Ss l i = kv i := ⟨fun i => keyV K Ss l i, fun _ => rfl⟩
  simp only [hkv] at PK HBE HAB ⊢
  clear h hB hbel habo hkv hP h00 hc0
  have hm : ∀ (N : Nat) (w : World), (method (N + 1) 77 (.pointer (some ⟨gm, 0, none⟩)) "Key").run Tryz.prog w = .ok (176, .pointer (some ⟨gm, 0, none⟩)) w := fun _ _ => by kernel_rfl
  go_enter Tryz.func82, Tryz.ntmps82
  go_wp2_with fail
  go_loopw [2, 3, 14, 15] (fun v2 v3 v14 v15 wr => ∃ (a b : Nat) (kn : Bool) (kk : Int) (x : Nat), v2 = .int .i64 a ∧ v3 = .int .i64 b ∧ v14 = .bool kn ∧ v15 = .int .u64 kk ∧ lo ≤ a ∧ a ≤ r ∧ r ≤ b ∧ b ≤ hi ∧ x + (b - a) ≤ hi - lo ∧ Hid (kn = decide (b < hi)) ∧ Hid (b < hi → kk = kv b) ∧ Hid (Mv (one1 ga) w wr ∧ MSt w00 gm ga r0 n wr (cnt.set l x))) (fun v2 v3 _ _ _ => (intOf v3).toNat - (intOf v2).toNat)
  case atStart => exact ⟨lo, hi, false, 0, 0, rfl, rfl, rfl, rfl, by omega, by omega, by omega, by omega, by omega, by rw [Hid]; simp, fun h => absurd h (by omega), Mv.refl _ _, H00.out⟩
  case round =>
    obtain ⟨a, b, kn, kk, x, rfl, rfl, rfl, rfl, hla, har, hrb, hbh, hxb, hkn, hkk, hst⟩ := hrel
    rcases Nat.lt_or_ge a b with hlt | hge
    · have g1 : decide (a < b) = true := decide_eq_true hlt
      obtain ⟨m, hm⟩ : ∃ m, m = (a + b) / 2 := ⟨_, rfl⟩
      have wa : IntKind.i64.wrap ((a : Int) + (b : Int)) = (a : Int) + (b : Int) := wrap_i64_in _ (by omega) (by omega)
      have wq : IntKind.i64.wrap (Int.tdiv ((a : Int) + (b : Int)) 2) = (m : Int) := by
        rw [Int.tdiv_eq_ediv_of_nonneg (by omega), wrap_i64_in _ (by omega) (by omega)]; omega
      have hma : a ≤ m := by omega
      have hmb : m < b := by omega
      have wm : IntKind.i64.wrap ((m : Int) + 1) = (m : Int) + 1 := wrap_i64_in _ (by omega) (by omega)
      have HM := Lib.hid hm
      clear hm
      go_wp2_with fail
      refine (PK.out m x wr (by omega) (by omega) hst.out.2).mono ?_
      rintro _ w2 ⟨rfl, hm2, hs2⟩
      have HS2 : Hid (Mv (one1 ga) w w2 ∧ MSt w00 gm ga r0 n w2 (cnt.set l (x + 1))) := ⟨hst.out.1.trans' hm2, hs2⟩
      clear hm2 hs2
      by_cases hc : kv m < k
      · have d2 : decide (kv m < k) = true := decide_eq_true hc
        go_wp2_with fail
        refine ⟨⟨m + 1, b, kn, kk, x + 1, rfl, rfl, rfl, rfl, by omega, ?_, hrb, hbh, by omega, hkn.out, hkk.out, HS2.out⟩, by simp only [intOf]; omega⟩
        rcases Nat.lt_or_ge m r with h | h
        · exact h
        · exact absurd (HAB.out m h (by omega)) (by omega)
      · have d2 : decide (kv m < k) = false := decide_eq_false hc
        go_wp2_with fail
        refine ⟨⟨a, m, true, kv m, x + 1, rfl, rfl, rfl, rfl, hla, har, ?_, by omega, by omega, ?_, fun _ => rfl, HS2.out⟩, by simp only [intOf]; omega⟩
        · rcases Nat.lt_or_ge m r with h | h
          · exact absurd (HBE.out m (by omega) h) (by omega)
          · exact h
        · exact (decide_eq_true (by omega)).symm
    · obtain rfl : a = r := by omega
      obtain rfl : a = b := by omega
      have g1 : decide (a < a) = false := by simp
      by_cases hk : a < hi
      · obtain rfl : kn = true := by rw [hkn.out]; exact decide_eq_true hk
        obtain rfl : kk = kv a := hkk.out hk
        have hp : Hid (decide ((a < hi ∨ a < up) ∧ kv a = k) = (kv a == k)) := by
          rw [Hid]
          by_cases h : kv a = k
          · rw [decide_eq_true ⟨.inl hk, h⟩]; simp [h]
          · rw [decide_eq_false (fun q => h q.2)]; simp [h]
        clear hkk hkn hk
        go_wp2_with fail
        refine bodyPost_ret (results_tmp2 rfl _ _ _) rfl ?_
        exact ⟨by rw [hp.out]; rfl, hst.out.1, x, by omega, hst.out.2⟩
      · obtain rfl : kn = false := by rw [hkn.out]; exact decide_eq_false hk
        by_cases hup : a < up
        · have d3 : decide (a < up) = true := decide_eq_true hup
          have hp : Hid (decide ((a < hi ∨ a < up) ∧ kv a = k) = (kv a == k)) := by
            rw [Hid]
            by_cases h : kv a = k
            · rw [decide_eq_true ⟨.inr hup, h⟩]; simp [h]
            · rw [decide_eq_false (fun q => h q.2)]; simp [h]
          clear hkk hkn hk
          go_wp2_with fail
          refine (PK.out a x wr (by omega) (by omega) hst.out.2).mono ?_
          rintro _ w2 ⟨rfl, hm2, hs2⟩
          have HS2 : Hid (Mv (one1 ga) w w2 ∧ MSt w00 gm ga r0 n w2 (cnt.set l (x + 1))) := ⟨hst.out.1.trans' hm2, hs2⟩
          clear hm2 hs2
          go_wp2_with fail
          refine bodyPost_ret (results_tmp2 rfl _ _ _) rfl ?_
          exact ⟨by rw [hp.out]; rfl, HS2.out.1, x + 1, by omega, HS2.out.2⟩
        · have d3 : decide (a < up) = false := decide_eq_false hup
          have hp : Hid (decide ((a < hi ∨ a < up) ∧ kv a = k) = false) := by
            rw [Hid]
            exact decide_eq_false (fun q => q.1.elim (fun h => hk h) (fun h => hup h))
          clear hkk hkn hk
          go_wp2_with fail
          refine bodyPost_ret (results_tmp2 rfl _ _ _) rfl ?_
          exact ⟨by rw [hp.out]; rfl, hst.out.1, x, by omega, hst.out.2⟩
end Go.Proofs.YtelpbbkmkighfaaGreat
namespace Go.Proofs.YtelpbbkmkighfaaGreat
set_option maxRecDepth 100000
open Go.RowKit Go.Inc Go.Run
attribute [local go_sem] run_store_float
set_option maxHeartbeats 8000000 in
theorem descM_calls (r0 p : Nat) (eps : Int) (K : List Int) (Ss : List (List Seg)) (k : Int) (g6 g7 : Nat) (w0 w : World) (L : Nat → Prop) (J I : Nat → World → Prop)
    (hE : ∀ w j, Mv L w0 w → J j w → Calls Tryz.prog 174 #[.pointer (some ⟨r0, 0, none⟩)] w fun e w' => e = .returned (.int .i64 eps) ∧ w' = w)
    (hH : ∀ w j, Mv L w0 w → J j w → Calls Tryz.prog 175 #[.pointer (some ⟨r0, 0, none⟩)] w fun e w' => e = .returned (.int .i64 (Ss.length : Nat)) ∧ w' = w)
    (hSg : ∀ w j (l a : Nat), l ≤ 4294967296 → a ≤ 4294967296 → Mv L w0 w → J j w → Calls Tryz.prog 177 #[.pointer (some ⟨r0, 0, none⟩), .int .i64 ((l : Int) + 1), .int .i64 (a : Nat)] w fun e w' => e = .returned (segVal (segV K Ss ((l : Int) + 1) a)) ∧ Fr w w')
    (hLk : ∀ w (l lo hi up r : Nat), Mv L w0 w → J (l + 1) w → l < Ss.length → lo ≤ r → r ≤ hi → hi ≤ 4294967296 → up ≤ 4294967296 → (hi : Int) ≤ lo + (2 * eps + 2) → (∀ i : Nat, lo ≤ i → i < r → keyV K Ss l i < k) → (∀ i : Nat, r ≤ i → i < hi → k ≤ keyV K Ss l i) →
      Calls Tryz.prog 82 #[.pointer (some ⟨r0, 0, none⟩), .int .i64 (l : Nat), .int .i64 lo, .int .i64 hi, .int .i64 up, .int .u64 k] w fun e w' => e = .returned (.tuple #[.int .i64 (r : Nat), .bool (decide ((r < hi ∨ r < up) ∧ keyV K Ss l r = k))]) ∧ Mv L w w' ∧ J l w')
    (hJf : ∀ j w w' S, Mv L w0 w → J j w → Mv S w w' → (∀ k, S k → w0.heap.size ≤ k) → J j w')
    (hIf : ∀ j w w', Mv L w0 w → I j w → Mv L w w' → I j w')
    (hLb : ∀ k, L k → k < w0.heap.size)
    (hC : ∀ (l : Nat) wr v b, I (l + 1) wr → Mv L w0 wr → VisOk eps K Ss k l v b → ∃ S : Nat → Prop, (∀ k, S k → w0.heap.size ≤ k ∧ k < wr.heap.size) ∧ ∀ w, Mv L wr w → Calls Tryz.prog 63 #[visVal v, .bool b, .pointer (some ⟨g6, 0, none⟩), .pointer (some ⟨g7, 0, none⟩)] w fun e w' => e = .returned (.tuple #[]) ∧ I l w' ∧ Mv S w w')
    (hP : True)
    (h0 : Mv L w0 w) (hJ0 : J Ss.length w) (hI0 : I Ss.length w)
    (hT : Tower eps K Ss) (he : 2 ≤ eps ∧ eps ≤ 64) (hB : K.length ≤ 4294967296 ∧ ∀ S ∈ Ss, S.length ≤ 4294967296) (hl : Ss.length ≤ 4294967296) (hk : 0 ≤ k ∧ k < 18446744073709551616) :
    Calls Tryz.prog 62 #[.pointer (some ⟨r0, 0, none⟩), .int .u64 k, .func (.func 63) #[] #[.pointer (some ⟨g6, 0, none⟩), .pointer (some ⟨g7, 0, none⟩)]] w fun e w' => e = .returned (.tuple #[]) ∧ ∃ a_, DownG K Ss k w0 L J I w' 0 a_ := by
  have HT := Lib.hid hT
  have HB := Lib.hid hB
  have H0 := Lib.hid (And.intro h0 (And.intro hJ0 hI0))
  have HSG := Lib.hid hSg
  have HLK := Lib.hid hLk
  have HJF := Lib.hid hJf
  have HIF := Lib.hid hIf
  have HLB := Lib.hid hLb
  have HCC := Lib.hid hC
  have HPT := Lib.hid hP
  have HEE := Lib.hid hE
  clear hT hB h0 hJ0 hI0 hSg hLk hJf hIf hLb hC hP hE
  obtain ⟨N, hN⟩ : ∃ N, Ss.length = N := ⟨_, rfl⟩
  have HN := Lib.hid hN
  rw [hN] at hH hl
  have HHH := Lib.hid hH
  have wh : IntKind.i64.wrap ((N : Int) - 1) = (N : Int) - 1 := wrap_i64_in _ (by omega) (by omega)
  clear hN hH
  have m1 : ∀ (N : Nat) (w : World), (method (N + 1) 77 (.pointer (some ⟨r0, 0, none⟩)) "Eps").run Tryz.prog w = .ok (174, .pointer (some ⟨r0, 0, none⟩)) w := fun _ _ => by kernel_rfl
  have m2 : ∀ (N : Nat) (w : World), (method (N + 1) 77 (.pointer (some ⟨r0, 0, none⟩)) "Height").run Tryz.prog w = .ok (175, .pointer (some ⟨r0, 0, none⟩)) w := fun _ _ => by kernel_rfl
  have m3 : ∀ (N : Nat) (w : World), (method (N + 1) 77 (.pointer (some ⟨r0, 0, none⟩)) "Segment").run Tryz.prog w = .ok (177, .pointer (some ⟨r0, 0, none⟩)) w := fun _ _ => by kernel_rfl
  go_enter Tryz.func62, Tryz.ntmps62
  go_wp2_with fail
  refine (HEE.out w N H0.out.1 (by have := H0.out.2.1; rw [HN.out] at this; exact this)).mono ?_
  rintro _ w1 ⟨rfl, hw1⟩
  subst hw1
  go_wp2_with fail
  refine (HHH.out w1 N H0.out.1 (by have := H0.out.2.1; rw [HN.out] at this; exact this)).mono ?_
  rintro _ w2 ⟨rfl, hw2⟩
  subst hw2
  go_wp2_with fail
  go_loopw [6, 8] (fun v6 v8 wr => ∃ (j a : Nat) (lv : Int), v6 = .int .i64 a ∧ v8 = .int .i64 lv ∧ lv = (j : Int) - 1 ∧ j ≤ N ∧ Hid (DownG K Ss k w0 L J I wr j a)) (fun _ v8 _ => (intOf v8 + 1).toNat)
  case atStart =>
    refine ⟨N, 0, _, rfl, rfl, rfl, by omega, ?_⟩
    obtain ⟨q1, q2, q3⟩ := H0.out
    rw [HN.out] at q2 q3
    refine ⟨q1, q2, q3, fun h => ?_⟩
    obtain ⟨l, rfl⟩ : ∃ l, N = l + 1 := ⟨N - 1, by omega⟩
    have hl := HT.out l (by have := HN.out; omega)
    have h1 := hl.2.2.2.2.2 (by rw [HN.out])
    have h2 : lvK K Ss (l + 1) = firstsOf (Ss[l]'(by have := HN.out; omega)) := by
      show firstsOf (Ss.getD l []) = _
      rw [List.getD_eq_getElem?_getD, List.getElem?_eq_getElem]; rfl
    rw [h2]
    exact ⟨by rw [firsts_len]; omega, .inl rfl, fun h => by rw [firsts_len] at h; omega⟩
  case round =>
    obtain ⟨j, a, lv, rfl, rfl, rfl, hj, hd⟩ := hrel
    rcases Nat.eq_zero_or_pos j with rfl | hpos
    · go_wp2_with fail
      go_end0
      exact ⟨rfl, a, hd.out⟩
    · obtain ⟨l, rfl⟩ : ∃ l, j = l + 1 := ⟨j - 1, by omega⟩
      rw [show ((l + 1 : Nat) : Int) - 1 = (l : Int) by omega]
      have wl : IntKind.i64.wrap ((l : Int) + 1) = (l : Int) + 1 := wrap_i64_in _ (by omega) (by omega)
      have hlN : l < Ss.length := by have := HN.out; omega
      obtain ⟨S, hS⟩ : ∃ S, Ss[l] = S := ⟨_, rfl⟩
      have hSm : S ∈ Ss := by rw [← hS]; exact List.getElem_mem hlN
      obtain ⟨t1, t2, t3, t4, t5, t6⟩ := HT.out l hlN
      rw [hS] at t5 t6
      have hlv : lvK K Ss (l + 1) = firstsOf S := by
        show firstsOf (Ss.getD l []) = _
        rw [List.getD_eq_getElem?_getD, List.getElem?_eq_getElem hlN, ← hS]; rfl
      have hcov := hd.out.cov (by omega)
      rw [hlv] at hcov
      have haS : a < S.length := by have := hcov.lt; rw [firsts_len] at this; exact this
      obtain ⟨r, hr⟩ := rank_ex t1 k
      have hw := window he t1 t5 hcov hr haS
      obtain ⟨s, hs⟩ : ∃ s, S[a] = s := ⟨_, rfl⟩
      rw [hs] at hw
      have hrow : rowAt Ss ((l : Int) + 1) = S := by
        unfold rowAt
        rw [Int.add_sub_cancel, Int.toNat_natCast, List.getD_eq_getElem?_getD, List.getElem?_eq_getElem hlN, ← hS]; rfl
      have hsv : segV K Ss ((l : Int) + 1) (a : Int) = s := by rw [segV_row hlN hrow haS, hs]
      have HVIS : Hid ((Ss.getD l [])[a]? = some s) := by
        rw [Hid, List.getD_eq_getElem?_getD, List.getElem?_eq_getElem hlN, Option.getD_some, hS, List.getElem?_eq_getElem haS, hs]
      have HSEG : Hid (∀ w', Mv L w0 w' → J (l + 1) w' → Calls Tryz.prog 177 #[.pointer (some ⟨r0, 0, none⟩), .int .i64 ((l : Int) + 1), .int .i64 (a : Nat)] w' fun e w'' => e = .returned (segVal s) ∧ Fr w' w'') := by
        intro w' h h'
        have h1 := HSG.out w' (l + 1) l a (by omega) (by have := HB.out.2 S hSm; omega) h h'
        rw [hsv] at h1
        exact h1
      have HW := Lib.hid hw
      have HRK := Lib.hid hr
      have HLV := Lib.hid hlv
      have HGU : Hid (∀ w', Calls Tryz.prog 81 #[segVal s, .int .u64 k] w' fun e w'' => e = .returned (.int .i64 (guessV s k)) ∧ Fr w' w'') := fun w' => guess_calls s k hw.fit hw.ok hk w'
      have HLEN := Lib.hid t3
      have HAS := Lib.hid haS
      have HSL := Lib.hid (HB.out.2 S hSm)
      have HLOOK : Hid (∀ (lo hi up : Nat) w', Mv L w0 w' → J (l + 1) w' → max s.frm (guessV s k - eps - 1) = (lo : Int) → min s.upto (guessV s k + eps + 1) = (hi : Int) → s.upto = (up : Int) →
          Calls Tryz.prog 82 #[.pointer (some ⟨r0, 0, none⟩), .int .i64 (l : Nat), .int .i64 lo, .int .i64 hi, .int .i64 up, .int .u64 k] w' fun e w'' => e = .returned (.tuple #[.int .i64 (r : Nat), .bool (decide (r < (lvK K Ss l).length ∧ ky (lvK K Ss l) r = k))]) ∧ Mv L w' w'' ∧ J l w'') := by
        intro lo hi up w' hfw hjw e1 e2 e3
        have hlen := hw.len
        have h1 := hw.lo
        have h2 := hw.hi
        have kv : ∀ i : Nat, i < (lvK K Ss l).length → keyV K Ss (l : Int) (i : Int) = ky (lvK K Ss l) i := fun i hi => keyV_lvK (by omega) hi
        have h5 := HLK.out w' l lo hi up r hfw hjw hlN (by omega) (by omega) (by omega) (by omega) (by omega) (fun i _ hi => by rw [kv i (by have := hr.le; omega)]; exact hr.bel i hi) (fun i hi hi' => by rw [kv i (by omega)]; exact hr.abo i hi (by omega))
        have h6 : decide ((r < hi ∨ r < up) ∧ keyV K Ss (l : Int) (r : Nat) = k) = decide (r < (lvK K Ss l).length ∧ ky (lvK K Ss l) r = k) := by
          have h7 := hw.ex
          rw [e2, e3] at h7
          rw [← h7]
          by_cases h8 : r < hi ∨ r < up
          · rw [kv r (by omega)]
            congr 1
            simp only [Int.ofNat_lt]
          · rw [decide_eq_false (fun q => h8 q.1), decide_eq_false (fun q => h8 (by have := q.1; omega))]
        rw [h6] at h5
        exact h5
      obtain ⟨sf, sl, it, fn, un⟩ := s
      unfold segVal at HSEG HGU
      dsimp only at HSEG HGU
      clear t1 t2 t3 t4 t5 t6 hlv hcov haS hr hw hs hrow hsv hS hSm
      obtain ⟨g, hg⟩ : ∃ g, guessV ⟨sf, sl, it, fn, un⟩ k = g := ⟨_, rfl⟩
      rw [hg] at HGU
      have HG := Lib.hid hg
      have HD := hd
      clear hg hlN hd
      go_wp2_with fail
      refine (HSEG.out wr HD.out.mv HD.out.hj).mono ?_
      rintro _ w3 ⟨rfl, hf3⟩
      have HF3 : Hid (Fr wr w3) := hf3
      clear hf3
      have hb9 := heap_alloc_new w3 (.cells #[.int .u64 sf, .float .f64 sl, .float .f64 it, .int .i64 fn, .int .i64 un] 47)
      obtain ⟨x0, x1, x2, x3, x4⟩ := cells5 hb9
      have HB9 := Lib.hid hb9
      clear hb9
      go_wp2_with fail
      obtain ⟨w4, hw4⟩ : ∃ w4, w4 = w3.alloc (.cells #[.int .u64 sf, .float .f64 sl, .float .f64 it, .int .i64 fn, .int .i64 un] 47) := ⟨_, rfl⟩
      have HF4 : Hid (Fr wr w4) := by rw [hw4]; exact HF3.out.alloc _
      obtain ⟨b9, hb9⟩ : ∃ b9, b9 = w3.heap.size := ⟨_, rfl⟩
      have H9 : Hid (wr.heap.size ≤ b9) := by rw [hb9]; exact HF3.out.size
      rw [← hw4, ← hb9] at HB9 ⊢
      clear hw4 hb9 x0 x1 x2 x3 x4
      refine (HGU.out w4).mono ?_
      rintro _ w5 ⟨rfl, hf5⟩
      have HF5 : Hid (Fr wr w5) := HF4.out.trans hf5
      have HB9' : Hid (w5.heap[b9]? = some (.cells #[.int .u64 sf, .float .f64 sl, .float .f64 it, .int .i64 fn, .int .i64 un] 47)) := hf5.blk HB9.out
      clear hf5 HB9
      have hbx := heap_alloc_new w5 (.cells #[.int .i64 (l : Int), .int .i64 (a : Int), .int .i64 g, .int .i64 0, .int .i64 0, .int .i64 0] 86)
      obtain ⟨w6, hw6⟩ : ∃ w6, w6 = w5.alloc (.cells #[.int .i64 (l : Int), .int .i64 (a : Int), .int .i64 g, .int .i64 0, .int .i64 0, .int .i64 0] 86) := ⟨_, rfl⟩
      have HF6 : Hid (Fr wr w6) := by rw [hw6]; exact HF5.out.alloc _
      have HB6 : Hid (w6.heap[b9]? = some (.cells #[.int .u64 sf, .float .f64 sl, .float .f64 it, .int .i64 fn, .int .i64 un] 47)) := by rw [hw6]; exact ((Fr.refl w5).alloc _).blk HB9'.out
      rw [← hw6] at hbx
      have HBX := Lib.hid hbx
      have HW6 := Lib.hid hw6
      clear hw6
      have hgi := guess_in HW.out.ok k
      rw [HG.out] at hgi
      have hf0 := HW.out.frm
      have hun := HW.out.len
      have hle := HLEN.out
      dsimp only at hgi hf0 hun
      have q1 : IntKind.i64.wrap (g - eps) = g - eps := wrap_i64_in _ (by omega) (by omega)
      have q2 : IntKind.i64.wrap (g - eps - 1) = g - eps - 1 := wrap_i64_in _ (by omega) (by omega)
      have q3 : IntKind.i64.wrap (g + eps) = g + eps := wrap_i64_in _ (by omega) (by omega)
      have q4 : IntKind.i64.wrap (g + eps + 1) = g + eps + 1 := wrap_i64_in _ (by omega) (by omega)
      have HGI := Lib.hid (And.intro hgi (And.intro hf0 (And.intro hun hle)))
      clear hbx hgi hf0 hun hle
      go_wp2_with fail
      rw [← HW6.out]
      obtain ⟨x0, x1, x2, x3, x4⟩ := cells5 HB6.out
      obtain ⟨bx, hbx⟩ : ∃ bx, bx = w5.heap.size := ⟨_, rfl⟩
      rw [← hbx] at HBX ⊢
      have HX : Hid (w5.heap.size ≤ bx) := by rw [Hid]; omega
      clear hbx
      have y2 : w6.cell? ⟨bx, 2, none⟩ = some (.int .i64 g) := blk_cell HBX.out 2
      have y3 : w6.cell? ⟨bx, 3, none⟩ = some (.int .i64 0) := blk_cell HBX.out 3
      have y4 : w6.cell? ⟨bx, 4, none⟩ = some (.int .i64 0) := blk_cell HBX.out 4
      have z3 := blk_frozen HBX.out 3
      have z4 := blk_frozen HBX.out 4
      have hbb : bx ≠ b9 := by
        have h1 := (Array.getElem?_eq_some_iff.1 HB9'.out).1
        have := HX.out
        omega
      go_region_held3 (fun w' => w'.cell? ⟨b9, 3, none⟩ = some (.int .i64 fn) ∧ w'.cell? ⟨b9, 4, none⟩ = some (.int .i64 un) ∧ w'.cell? ⟨bx, 2, none⟩ = some (.int .i64 g))
        (first | exact ⟨x3, x4, y2⟩ | exact ⟨blk_cell (drew_blk2 (blk_set_ne HB6.out (p := ⟨bx, 3, none⟩) hbb _)) 3, blk_cell (drew_blk2 (blk_set_ne HB6.out (p := ⟨bx, 3, none⟩) hbb _)) 4, blk_cell (drew_blk2 (blk_set HBX.out 3 _)) 2⟩ | exact ⟨blk_cell (drew_blk2 (blk_set_ne (blk_set_ne HB6.out (p := ⟨bx, 3, none⟩) hbb _) (p := ⟨bx, 4, none⟩) hbb _)) 3, blk_cell (drew_blk2 (blk_set_ne (blk_set_ne HB6.out (p := ⟨bx, 3, none⟩) hbb _) (p := ⟨bx, 4, none⟩) hbb _)) 4, blk_cell (drew_blk2 (blk_set (blk_set HBX.out 3 _) 4 _)) 2⟩)
        (first | fail "no")
      all_goals
        have hx : wr.heap.size ≤ bx := Nat.le_trans HF5.out.size HX.out
        obtain ⟨lo, hlo⟩ : ∃ lo : Nat, max fn (g - eps - 1) = (lo : Int) := ⟨(max fn (g - eps - 1)).toNat, by have := HGI.out.2.1; omega⟩
        obtain ⟨hi, hhi⟩ : ∃ hi : Nat, min un (g + eps + 1) = (hi : Int) := ⟨(min un (g + eps + 1)).toNat, by have := HGI.out.1; have := HGI.out.2.1; omega⟩
        obtain ⟨up, hup⟩ : ∃ up : Nat, un = (up : Int) := ⟨un.toNat, by have := HGI.out.1; have := HGI.out.2.1; omega⟩
        rw [hlo, hhi]
        obtain ⟨w7, hw7⟩ : ∃ w7, w7 = ((w6.setCell ⟨bx, 3, none⟩ (.int .i64 (lo : Int))).setCell ⟨bx, 4, none⟩ (.int .i64 (hi : Int))).drew := ⟨_, rfl⟩
        have HB7 : Hid (w7.heap[b9]? = some (.cells #[.int .u64 sf, .float .f64 sl, .float .f64 it, .int .i64 fn, .int .i64 un] 47)) := by rw [hw7]; exact drew_blk2 (blk_set_ne (blk_set_ne HB6.out (p := ⟨bx, 3, none⟩) hbb _) (p := ⟨bx, 4, none⟩) hbb _)
        have HBX7 : Hid (w7.heap[bx]? = some (.cells #[.int .i64 (l : Int), .int .i64 (a : Int), .int .i64 g, .int .i64 (lo : Int), .int .i64 (hi : Int), .int .i64 0] 86)) := by rw [hw7]; exact drew_blk2 (blk_set (blk_set HBX.out 3 _) 4 _)
        have HF7 : Hid (Fr wr w7) := by rw [hw7]; exact ((HF6.out.set (p := ⟨bx, 3, none⟩) hx _).set (p := ⟨bx, 4, none⟩) hx _).drew
        rw [← hw7]
        have HLO := Lib.hid hlo
        have HHI := Lib.hid hhi
        have HUP := Lib.hid hup
        clear hw7 hlo hhi hup x0 x1 x2 x3 x4 y2 y3 y4 z3 z4
        obtain ⟨x0, x1, x2, x3, x4⟩ := cells5 HB7.out
        have y3 : w7.cell? ⟨bx, 3, none⟩ = some (.int .i64 (lo : Int)) := blk_cell HBX7.out 3
        have y4 : w7.cell? ⟨bx, 4, none⟩ = some (.int .i64 (hi : Int)) := blk_cell HBX7.out 4
        go_wp2_with fail
        refine (show Calls Tryz.prog 82 #[.pointer (some ⟨r0, 0, none⟩), .int .i64 (l : Nat), .int .i64 lo, .int .i64 hi, .int .i64 un, .int .u64 k] w7 _ by rw [HUP.out]; exact HLOOK.out lo hi up w7 (HD.out.mv.then HF7.out) (HJF.out (l + 1) wr w7 none0 HD.out.mv HD.out.hj (Mv.of_fr HF7.out) (fun _ h => h.elim)) (by rw [HG.out]; exact HLO.out) (by rw [HG.out]; exact HHI.out) HUP.out).mono ?_
        rintro _ w8 ⟨rfl, hm8, hj8⟩
        obtain ⟨exx, hexx⟩ : ∃ exx, decide (r < (lvK K Ss l).length ∧ ky (lvK K Ss l) r = k) = exx := ⟨_, rfl⟩
        rw [hexx]
        have hLb9 : ¬ L b9 := fun h => by have := HLB.out _ h; have := HD.out.mv.size; have := H9.out; omega
        have hLbx : ¬ L bx := fun h => by have := HLB.out _ h; have := HD.out.mv.size; omega
        have HB8 : Hid (w8.heap[b9]? = some (.cells #[.int .u64 sf, .float .f64 sl, .float .f64 it, .int .i64 fn, .int .i64 un] 47)) := hm8.blk HB7.out hLb9
        have HBX8 : Hid (w8.heap[bx]? = some (.cells #[.int .i64 (l : Int), .int .i64 (a : Int), .int .i64 g, .int .i64 (lo : Int), .int .i64 (hi : Int), .int .i64 0] 86)) := hm8.blk HBX7.out hLbx
        have HM8 : Hid (Mv L wr w8) := (Mv.of_fr HF7.out).trans' hm8
        have HJ8 := Lib.hid hj8
        clear hm8 hj8 y3 y4 x0 x1 x2 x3 x4 hLb9 hLbx
        obtain ⟨w9, hw9⟩ : ∃ w9, w9 = w8.setCell ⟨bx, 5, none⟩ (.int .i64 (r : Nat)) := ⟨_, rfl⟩
        have hb9' := blk_set HBX8.out 5 (.int .i64 (r : Nat))
        have HBX9 : Hid (w9.heap[bx]? = some (.cells #[.int .i64 (l : Int), .int .i64 (a : Int), .int .i64 g, .int .i64 (lo : Int), .int .i64 (hi : Int), .int .i64 (r : Nat)] 86)) := by rw [hw9]; exact hb9'
        have HB9'' : Hid (w9.heap[b9]? = some (.cells #[.int .u64 sf, .float .f64 sl, .float .f64 it, .int .i64 fn, .int .i64 un] 47)) := by rw [hw9]; exact blk_set_ne HB8.out (p := ⟨bx, 5, none⟩) hbb _
        have HM9 : Hid (Mv L wr w9) := by rw [hw9]; exact HM8.out.set (p := ⟨bx, 5, none⟩) (.inr hx) _
        have HJ9 : Hid (J l w9) := by
          rw [hw9]
          refine HJF.out l w8 _ (one1 bx) (HD.out.mv.trans' HM8.out) HJ8.out ((Mv.refl (one1 bx) w8).set (p := ⟨bx, 5, none⟩) (.inl rfl) _) (fun i hi => ?_)
          rw [show i = bx from hi]
          exact Nat.le_trans HD.out.mv.size hx
        have HVOK : Hid (VisOk eps K Ss k l ⟨l, a, g, lo, hi, r⟩ exx) := by
          refine ⟨a, r, ⟨sf, sl, it, fn, un⟩, HVIS.out, ?_, HRK.out, hexx.symm, HW.out⟩
          simp only [HG.out, HLO.out, HHI.out]
        obtain ⟨SS, hss, hcc⟩ := HCC.out l wr _ exx HD.out.hi HD.out.mv HVOK.out
        have HFI : Hid (Calls Tryz.prog 63 #[.agg #[.int .i64 (l : Int), .int .i64 (a : Int), .int .i64 g, .int .i64 (lo : Int), .int .i64 (hi : Int), .int .i64 (r : Nat)], .bool exx, .pointer (some ⟨g6, 0, none⟩), .pointer (some ⟨g7, 0, none⟩)] w9 fun e w' => e = .returned (.tuple #[]) ∧ I l w' ∧ Mv SS w9 w') := hcc w9 HM9.out
        have HSS := Lib.hid hss
        have HW9 := Lib.hid hw9
        have HEX := Lib.hid hexx
        have y5 : w8.cell? ⟨bx, 5, none⟩ = some (.int .i64 0) := blk_cell HBX8.out 5
        have z5 := blk_frozen HBX8.out 5
        rw [hw9] at HBX9
        have c0 : (w8.setCell ⟨bx, 5, none⟩ (.int .i64 (r : Nat))).cell? ⟨bx, 0, none⟩ = some (.int .i64 (l : Int)) := blk_cell HBX9.out 0
        have c1 : (w8.setCell ⟨bx, 5, none⟩ (.int .i64 (r : Nat))).cell? ⟨bx, 1, none⟩ = some (.int .i64 (a : Int)) := blk_cell HBX9.out 1
        have c2 : (w8.setCell ⟨bx, 5, none⟩ (.int .i64 (r : Nat))).cell? ⟨bx, 2, none⟩ = some (.int .i64 g) := blk_cell HBX9.out 2
        have c3 : (w8.setCell ⟨bx, 5, none⟩ (.int .i64 (r : Nat))).cell? ⟨bx, 3, none⟩ = some (.int .i64 (lo : Int)) := blk_cell HBX9.out 3
        have c4 : (w8.setCell ⟨bx, 5, none⟩ (.int .i64 (r : Nat))).cell? ⟨bx, 4, none⟩ = some (.int .i64 (hi : Int)) := blk_cell HBX9.out 4
        have c5 : (w8.setCell ⟨bx, 5, none⟩ (.int .i64 (r : Nat))).cell? ⟨bx, 5, none⟩ = some (.int .i64 (r : Nat)) := blk_cell HBX9.out 5
        clear hb9' hw9 hexx hss hcc
        go_wp2_with fail
        rw [← HW9.out]
        refine HFI.out.mono ?_
        rintro _ w10 ⟨rfl, hi10, hm10⟩
        have HI10 := Lib.hid hi10
        have HB10 : Hid (w10.heap[b9]? = some (.cells #[.int .u64 sf, .float .f64 sl, .float .f64 it, .int .i64 fn, .int .i64 un] 47)) := hm10.blk HB9''.out (fun h => by have := (HSS.out _ h).2; have := H9.out; omega)
        have HM10 : Hid (Mv L w0 w10) := (HD.out.mv.trans' HM9.out).trans hm10 (fun i hi => .inr (HSS.out i hi).1)
        have HJ10 : Hid (J l w10) := HJF.out l w9 w10 SS (HD.out.mv.trans' HM9.out) HJ9.out hm10 (fun i hi => (HSS.out i hi).1)
        clear hi10 hm10 y5 z5 c0 c1 c2 c3 c4 c5
        obtain ⟨x0, x1, x2, x3, x4⟩ := cells5 HB10.out
        have hrl : r ≤ 4294967296 := by have := HRK.out.le; have := HLEN.out; omega
        have wr1 : IntKind.i64.wrap ((r : Int) - 1) = (r : Int) - 1 := wrap_i64_in _ (by omega) (by omega)
        have hf0 : 0 ≤ fn := HGI.out.2.1
        obtain ⟨b, hb⟩ : ∃ b : Nat, max ((r : Int) - 1) fn = (b : Int) := ⟨(max ((r : Int) - 1) fn).toNat, by omega⟩
        have HBB := Lib.hid hb
        clear hb
        have HDN : Hid (∀ at_, (0 < l → Cover (lvK K Ss l) k at_) → DownG K Ss k w0 L J I w10 l at_) := fun at_ hat => ⟨HM10.out, HJ10.out, HI10.out, hat⟩
        cases exx with
        | true =>
          go_wp2_with fail
          have hx := of_decide_eq_true HEX.out
          exact ⟨⟨l, r, _, rfl, rfl, rfl, by omega, HDN.out r (fun _ => HW.out.next1 hx.1 hx.2)⟩, by simp only [intOf]; omega⟩
        | false =>
          go_wp2_with fail
          have hx := of_decide_eq_false HEX.out
          have h9 := HW.out.next2 hx
          have e9 : (max ((r : Int) - 1) fn).toNat = b := by rw [HBB.out]; exact Int.toNat_natCast b
          dsimp only at h9
          rw [e9] at h9
          exact ⟨⟨l, b, _, by rw [HBB.out], rfl, rfl, by omega, HDN.out b (fun _ => h9)⟩, by simp only [intOf]; omega⟩
end Go.Proofs.YtelpbbkmkighfaaGreat
namespace Go.Proofs.YtelpbbkmkighfaaGreat
set_option maxRecDepth 100000
open Go.RowKit Go.Inc Go.Run
attribute [local go_sem] run_store_float

theorem find1M_calls (v0 v1 v2 v3 v4 r : Int) (ex : Bool) (g6 g7 : Nat) (hne : g6 ≠ g7) (x6 x7 : Value) (w : World) (h6 : w.heap[g6]? = some (.cells #[x6] 3)) (h7 : w.heap[g7]? = some (.cells #[x7] 4)) :
    Calls Tryz.prog 63 #[.agg #[.int .i64 v0, .int .i64 v1, .int .i64 v2, .int .i64 v3, .int .i64 v4, .int .i64 r], .bool ex, .pointer (some ⟨g6, 0, none⟩), .pointer (some ⟨g7, 0, none⟩)] w fun e w' => e = .returned (.tuple #[]) ∧ w'.heap[g6]? = some (.cells #[.int .i64 r] 3) ∧ w'.heap[g7]? = some (.cells #[.bool ex] 4) ∧ Mv (two g6 g7) w w' := by
  obtain ⟨w1, hw1⟩ : ∃ w1, w1 = w.alloc (.cells #[.int .i64 v0, .int .i64 v1, .int .i64 v2, .int .i64 v3, .int .i64 v4, .int .i64 r] 86) := ⟨_, rfl⟩
  have hf1 := (Fr.refl w).alloc (.cells #[.int .i64 v0, .int .i64 v1, .int .i64 v2, .int .i64 v3, .int .i64 v4, .int .i64 r] 86)
  have h6' := hf1.blk h6
  have h7' := hf1.blk h7
  have b6 := blk_cell h6' 0
  have b7 := blk_cell h7' 0
  have z6 := blk_frozen h6' 0
  have z7 := blk_frozen h7' 0
  have hb := heap_alloc_new w (.cells #[.int .i64 v0, .int .i64 v1, .int .i64 v2, .int .i64 v3, .int .i64 v4, .int .i64 r] 86)
  have y5 := blk_cell hb 5
  have y5' : (w.alloc (.cells #[.int .i64 v0, .int .i64 v1, .int .i64 v2, .int .i64 v3, .int .i64 v4, .int .i64 r] 86)).cell? ⟨w.heap.size, 5, none⟩ = some (.int .i64 r) := y5
  have b6' : (w.alloc (.cells #[.int .i64 v0, .int .i64 v1, .int .i64 v2, .int .i64 v3, .int .i64 v4, .int .i64 r] 86)).cell? ⟨g6, 0, none⟩ = some x6 := b6
  have b7' : (w.alloc (.cells #[.int .i64 v0, .int .i64 v1, .int .i64 v2, .int .i64 v3, .int .i64 v4, .int .i64 r] 86)).cell? ⟨g7, 0, none⟩ = some x7 := b7
  clear b6 b7 y5
  have HF1 := Lib.hid hf1
  have H6 := Lib.hid h6'
  have H7 := Lib.hid h7'
  clear hf1 h6 h7 h6' h7' hb
  have hne' : g7 ≠ g6 := fun h => hne h.symm
  go_enter Tryz.func63, Tryz.ntmps63
  go_wp2_with fail
  go_end0
  have k6 := blk_set H6.out 0 (.int .i64 r)
  have k7 := blk_set_ne H7.out (p := ⟨g6, 0, none⟩) hne (.int .i64 r)
  have k67 := blk_set_ne k6 (p := ⟨g7, 0, none⟩) hne' (.bool ex)
  have k77 := blk_set k7 0 (.bool ex)
  exact ⟨rfl, k67, k77, ((Mv.of_fr HF1.out).set (.inl (.inl rfl)) _).set (.inl (.inr rfl)) _⟩


def FindI (K : List Int) (Ss : List (List Seg)) (k : Int) (g6 g7 : Nat) (j : Nat) (w : World) : Prop :=
  ∃ (a : Int) (b : Bool), w.heap[g6]? = some (.cells #[.int .i64 a] 3) ∧ w.heap[g7]? = some (.cells #[.bool b] 4) ∧ (j = Ss.length → a = 0 ∧ b = false) ∧ (j < Ss.length → ∃ r, IsRank (lvK K Ss j) k r ∧ a = (r : Nat) ∧ b = decide (r < (lvK K Ss j).length ∧ ky (lvK K Ss j) r = k))
/-- How often was asked. -/
def AskJ (w00 : World) (gm ga r n : Nat) (eps : Int) (j : Nat) (w : World) : Prop := ∃ cnt : List Nat, MSt w00 gm ga r n w cnt ∧ (∀ i (h : i < cnt.length), i < j → cnt[i] = 0) ∧ ∀ i (h : i < cnt.length), (cnt[i] : Int) ≤ 2 * eps + 3
set_option maxHeartbeats 1000000 in
theorem findM_calls (w00 : World) (gm ga r0 p n : Nat) (eps : Int) (K : List Int) (Ss : List (List Seg)) (k : Int) (hn : n = Ss.length + 1) (hP : ∀ w', Fr w00 w' → PileR w' p eps K Ss ∧ w'.cell? ⟨r0, 0, none⟩ = some (.pointer (some ⟨p, 0, none⟩)))
    (hga : w00.heap.size ≤ ga) (hne : gm ≠ ga) (hO : RunOk eps K Ss) (hk : 0 ≤ k ∧ k < 18446744073709551616) (w : World) (cnt0 : List Nat) (hM : MSt w00 gm ga r0 n w cnt0) (hc0 : ∀ i (h : i < cnt0.length), cnt0[i] = 0) :
    Calls Tryz.prog 44 #[.pointer (some ⟨gm, 0, none⟩), .int .u64 k] w fun e w' => Mv (one1 ga) w w' ∧ (∃ cnt, MSt w00 gm ga r0 n w' cnt ∧ ∀ i (h : i < cnt.length), (cnt[i] : Int) ≤ 2 * eps + 3) ∧ ∃ r, IsRank K k r ∧ e = .returned (.tuple #[.int .i64 (r : Nat), .bool (decide (r < K.length ∧ ky K r = k))]) := by
  obtain ⟨hT, he, hz, hl⟩ := hO.tower
  have hmf : ∀ (fn : Fn) (first cap : Array Value) (w : World), (Instr.makeFunc fn first cap).run Tryz.prog w = .ok (.func fn first cap) w := fun _ _ _ _ => rfl
  have hB : K.length ≤ 4294967296 ∧ ∀ S ∈ Ss, S.length ≤ 4294967296 := ⟨hO.len, fun S hS => (hO.rows S hS).1⟩
  have hgm := blk_lt hM.hm
  have hgal := blk_lt hM.ha
  have hJf : ∀ j w' w'' S, Mv (one1 ga) w w' → AskJ w00 gm ga r0 n eps j w' → Mv S w' w'' → (∀ k, S k → w.heap.size ≤ k) → AskJ w00 gm ga r0 n eps j w'' := by
    intro j w' w'' S _ hj hm hS
    obtain ⟨cnt, h1, h2, h3⟩ := hj
    have hsz := hM.fr.size
    exact ⟨cnt, ⟨h1.fr.mv hm (fun i hi => by have := hS i hi; omega), hm.blk h1.hm (fun h => by have := hS _ h; omega), hm.blk h1.ha (fun h => by have := hS _ h; omega), h1.len⟩, h2, h3⟩
  have hcs : ∀ w' j, AskJ w00 gm ga r0 n eps j w' → w'.cell? ⟨gm, 0, none⟩ = some (.pointer (some ⟨r0, 0, none⟩)) ∧ PileR w' p eps K Ss ∧ w'.cell? ⟨r0, 0, none⟩ = some (.pointer (some ⟨p, 0, none⟩)) := by
    intro w' j hj
    obtain ⟨cnt, h1, _⟩ := hj
    exact ⟨blk_cell h1.hm 0, hP w' h1.fr⟩
  have hb6 : (((w.alloc (.cells #[.int .i64 0] 3)).alloc (.cells #[.bool false] 4)).heap[w.heap.size]? = some (.cells #[.int .i64 0] 3 (0, 0))) := ((Fr.refl _).alloc _).blk (heap_alloc_new w _)
  have hb7 : (((w.alloc (.cells #[.int .i64 0] 3)).alloc (.cells #[.bool false] 4)).heap[w.heap.size + 1]? = some (.cells #[.bool false] 4 (0, 0))) := by
    have := heap_alloc_new (w.alloc (.cells #[.int .i64 0] 3)) (.cells #[.bool false] 4)
    simpa using this
  have hf0 : Fr w ((w.alloc (.cells #[.int .i64 0] 3)).alloc (.cells #[.bool false] 4)) := ((Fr.refl w).alloc _).alloc _
  have y6 : ((w.alloc (.cells #[.int .i64 0] 3)).alloc (.cells #[.bool false] 4)).cell? ⟨w.heap.size, 0, none⟩ = some (.int .i64 0) := blk_cell hb6 0
  have y7 : ((w.alloc (.cells #[.int .i64 0] 3)).alloc (.cells #[.bool false] 4)).cell? ⟨w.heap.size + 1, 0, none⟩ = some (.bool false) := blk_cell hb7 0
  have hJ0 : AskJ w00 gm ga r0 n eps Ss.length w := ⟨cnt0, hM, fun i h _ => hc0 i h, fun i h => by rw [hc0 i h]; omega⟩
  have DS := Lib.hid (descM_calls gm 0 eps K Ss k w.heap.size (w.heap.size + 1) w ((w.alloc (.cells #[.int .i64 0] 3)).alloc (.cells #[.bool false] 4)) (one1 ga) (AskJ w00 gm ga r0 n eps) (FindI K Ss k w.heap.size (w.heap.size + 1))
    (fun w' j _ h => meps_calls gm r0 p eps K Ss w' (hcs w' j h).1 (hcs w' j h).2.2 (hcs w' j h).2.1)
    (fun w' j _ h => mheight_calls gm r0 p eps K Ss w' (hcs w' j h).1 (hcs w' j h).2.2 (hcs w' j h).2.1)
    (fun w' j l a hl ha _ h => mseg_calls gm r0 p eps K Ss l a hl ha w' (hcs w' j h).1 (hcs w' j h).2.2 (hcs w' j h).2.1 hB)
    (fun w' l lo hi up r hm h hl1 h1 h2 h3 h4 h7 h5 h6 => by
      obtain ⟨cnt, q1, q2, q3⟩ := h
      refine (lookM_calls w00 gm ga r0 p n eps K Ss hP hB hga hne cnt l (fun hh => q2 l hh (by omega)) (by omega) (by omega) lo hi up r k h1 h2 h3 h4 h5 h6 w' q1).mono ?_
      rintro e w'' ⟨g1, g2, x, g3, g4⟩
      refine ⟨g1, g2, cnt.set l x, g4, fun i hh hi => ?_, fun i hh => ?_⟩
      · rw [List.getElem_set_ne (by omega)]; exact q2 i (by simpa using hh) (by omega)
      · rw [List.getElem_set]
        split
        · omega
        · exact q3 i (by simpa using hh))
    hJf
    (fun j w' w'' hm h hm2 => by
      obtain ⟨a, b, h1, h2, h3, h4⟩ := h
      exact ⟨a, b, hm2.blk h1 (fun h => by have h9 : w.heap.size = ga := h; omega), hm2.blk h2 (fun h => by have h9 : w.heap.size + 1 = ga := h; omega), h3, h4⟩)
    (fun i h => by rw [show i = ga from h]; exact hgal)
    (fun l wr v b h _ hv => by
      obtain ⟨a, b', h1, h2, h3, h4⟩ := h
      refine ⟨two w.heap.size (w.heap.size + 1), fun i hi => ?_, fun w' hm => ?_⟩
      · have l1 := blk_lt h1
        have l2 := blk_lt h2
        rcases hi with h | h
        · rw [h]; exact ⟨Nat.le_refl _, l1⟩
        · rw [h]; exact ⟨Nat.le_succ _, l2⟩
      · obtain ⟨a', r, s, q1, q2, q3, q4, q5⟩ := hv
        subst q2
        refine (find1M_calls _ _ _ _ _ _ b w.heap.size (w.heap.size + 1) (by omega) _ _ w' (hm.blk h1 (fun h => by have h9 : w.heap.size = ga := h; omega)) (hm.blk h2 (fun h => by have h9 : w.heap.size + 1 = ga := h; omega))).mono ?_
        rintro e w'' ⟨g1, g2, g3, g4⟩
        have hls : l < Ss.length := by
          rcases Nat.lt_or_ge l Ss.length with h | h
          · exact h
          · rw [List.getD_eq_getElem?_getD, List.getElem?_eq_none h] at q1
            simp at q1
        exact ⟨g1, ⟨_, _, g2, g3, fun h => by omega, fun _ => ⟨r, q3, rfl, q4⟩⟩, g4⟩)
    trivial
    (Mv.of_fr hf0) (hJf _ _ _ none0 (Mv.refl _ _) hJ0 (Mv.of_fr hf0) (fun _ h => h.elim))
    ⟨0, false, hb6, hb7, fun _ => ⟨rfl, rfl⟩, fun h => by omega⟩
    hT he hB hl hk)
  have HZ := Lib.hid hz
  clear hP hO hT he hz hl hB hJf hcs hb6 hb7 hf0 hJ0 hM hc0 hk hgm hgal hga
  go_enter Tryz.func44, Tryz.ntmps44
  go_wp2_with fail
  refine DS.out.mono ?_
  rintro _ w2 ⟨rfl, at_, hd⟩
  obtain ⟨a, b, h6, h7, hc1, hc2⟩ := hd.hi
  have HMV := Lib.hid hd.mv
  have HJ := Lib.hid hd.hj
  have HC := Lib.hid (And.intro hc1 hc2)
  clear y6 y7
  have y6 : w2.cell? ⟨w.heap.size, 0, none⟩ = some (.int .i64 a) := blk_cell h6 0
  have y7 : w2.cell? ⟨w.heap.size + 1, 0, none⟩ = some (.bool b) := blk_cell h7 0
  clear hd h6 h7 hc1 hc2
  go_wp2_with fail
  go_quiet (fail)
  go_wp2_with fail
  go_ret2
  obtain ⟨cnt, q1, _, q3⟩ := HJ.out
  refine ⟨HMV.out.drewN _, ⟨cnt, ⟨q1.fr.drewN _, q1.hm, q1.ha, q1.len⟩, q3⟩, ?_⟩
  obtain ⟨r, h1, h2, h3⟩ := find_end HZ.out HC.out.1 HC.out.2
  exact ⟨r, h1, by rw [h2, h3]; rfl⟩
end Go.Proofs.YtelpbbkmkighfaaGreat
namespace Go.Proofs.YtelpbbkmkighfaaGreat
set_option maxRecDepth 100000
open Go.RowKit Go.Inc Go.Run
attribute [local go_sem] run_store_float

theorem vis_off {eps : Int} {K : List Int} {Ss : List (List Seg)} {k : Int} {l : Nat} {v : Vis} {b : Bool} (h : VisOk eps K Ss k l v b) : -(eps + 1) ≤ v.guess - v.rank ∧ v.guess - v.rank ≤ eps + 1 ∧ 0 ≤ v.guess ∧ v.guess ≤ 4294967296 ∧ 0 ≤ v.rank ∧ v.rank ≤ 4294967296 := by
  obtain ⟨a, r, s, _, rfl, hr, _, hw⟩ := h
  have h1 := hw.lo
  have h2 := hw.hi
  have h3 := guess_in hw.ok k
  have h4 := hw.ok.t1
  have h5 := hw.frm
  dsimp only
  omega

set_option maxHeartbeats 4000000 in
theorem bound_calls (r p : Nat) (eps : Int) (E : List Ent) (Ss : List (List Seg)) (k : Int) (w : World) (h : RunR w r p eps E Ss) (hO : RunOk eps (keysE E) Ss) (hl : E.length ≤ 268435456) (hk : 0 ≤ k ∧ k < 18446744073709551616) :
    Calls Tryz.prog 16 #[.pointer (some ⟨r, 0, none⟩), .int .u64 k] w fun e w' => e = .returned (.bool true) ∧ Fr w w' := by
  obtain ⟨hT, he, hz, hls⟩ := hO.tower
  obtain ⟨N, hN⟩ : ∃ N, Ss.length = N := ⟨_, rfl⟩
  have hNl : N ≤ 4294967296 := by omega
  have HR : Hid (∀ w', Fr w w' → RunR w' r p eps E Ss) := fun w' hf => h.fr hf
  have HCELL : Hid (∀ w', Fr w w' → w'.cell? ⟨r, 0, none⟩ = some (.pointer (some ⟨p, 0, none⟩))) := fun w' hf => (h.fr hf).ptr
  have hcell := h.ptr
  have HH : Hid (∀ w', Fr w w' → Calls Tryz.prog 24 #[.pointer (some ⟨p, 0, none⟩)] w' fun e w'' => e = .returned (.int .i64 (N : Nat)) ∧ w'' = w') := fun w' hf => by
    have := pheight_calls p eps (keysE E) Ss w' (h.fr hf).pile
    rw [hN] at this; exact this
  have EPS : Hid (∀ w', Fr w w' → Calls Tryz.prog 40 #[.pointer (some ⟨p, 0, none⟩)] w' fun e w'' => e = .returned (.int .i64 eps) ∧ w'' = w') := fun w' hf => peps_calls p eps (keysE E) Ss w' (h.fr hf).pile
  have GET : Hid (∀ w', Fr w w' → Calls Tryz.prog 20 #[.pointer (some ⟨r, 0, none⟩), .int .u64 k] w' fun e w'' => Fr w' w'' ∧ ∃ n : Nat, IsRank (keysE E) k n ∧ e = .returned (.tuple #[entV (getV E n (decide (n < (keysE E).length ∧ ky (keysE E) n = k))), .bool (decide (n < (keysE E).length ∧ ky (keysE E) n = k))])) :=
    fun w' hf => rget_calls r p eps E Ss k w' (h.fr hf) hO hk
  have RK : Hid (∀ w', Fr w w' → Calls Tryz.prog 26 #[.pointer (some ⟨r, 0, none⟩), .int .u64 k] w' fun e w'' => Fr w' w'' ∧ ∃ n : Nat, IsRank (keysE E) k n ∧ e = .returned (.int .i64 n)) :=
    fun w' hf => rrank_calls r p eps E Ss k w' (h.fr hf) hO hk
  have PTH : Hid (∀ w', Fr w w' → Calls Tryz.prog 45 #[.pointer (some ⟨r, 0, none⟩), .int .u64 k] w' fun e w'' => ∃ (A : Option Addr) (c : Nat) (V : List Vis), e = .returned (.slice A V.length c) ∧ RdC w'' A (V.flatMap vcells) ∧ V.length = Ss.length ∧ (∀ i (h : i < V.length), ∃ b, VisOk eps (keysE E) Ss k (Ss.length - 1 - i) V[i] b) ∧ Fr w' w'') :=
    fun w' hf => path_calls r p eps (keysE E) Ss k w' (h.fr hf).pile (h.fr hf).ptr hO hk
  have hmk := fun W => run_mk1 (P := Tryz.prog) 78 3 (.int .i64 0) 8 Tryz.underlying78 info_int rfl W ((N : Int) + 1) (N + 1) (by omega) (by omega) (by omega)
  have wN : IntKind.i64.wrap ((N : Int) + 1) = (N : Int) + 1 := wrap_i64_in _ (by omega) (by omega)
  -- the meter
  obtain ⟨w1, hw1⟩ : ∃ w1, w1 = (w.alloc (.cells (arr (List.replicate (N + 1) (.int .i64 0))) 3)).alloc (.cells #[.pointer (some ⟨r, 0, none⟩), .slice (some ⟨w.heap.size, 0, none⟩) (N + 1) (N + 1)] 80) := ⟨_, rfl⟩
  have hf1 : Fr w w1 := by rw [hw1]; exact ((Fr.refl w).alloc _).alloc _
  have hM : MSt w (w.heap.size + 1) w.heap.size r (N + 1) w1 (List.replicate (N + 1) 0) := by
    refine ⟨hf1, ?_, ?_, by simp⟩
    · rw [hw1]; exact heap_alloc2_new w _ _
    · rw [hw1, List.map_replicate]
      exact ((Fr.refl _).alloc _).blk (heap_alloc_new w _)
  have FM := Lib.hid (findM_calls w (w.heap.size + 1) w.heap.size r p (N + 1) eps (keysE E) Ss k (by rw [hN]) (fun w' hf => ⟨(h.fr hf).pile, (h.fr hf).ptr⟩) (Nat.le_refl _) (by omega) hO hk w1 (List.replicate (N + 1) 0) hM (fun i hi => by simp))
  have HW1 := Lib.hid hw1
  have HN := Lib.hid hN
  have HEP := Lib.hid he
  have HL := Lib.hid hl
  clear h hO hT he hz hN hf1 hM hw1 hl hk
  go_enter Tryz.func16, Tryz.ntmps16
  go_wp2_with fail
  refine (HH.out w (Fr.refl w)).mono ?_
  rintro _ wa ⟨rfl, hwa⟩
  have hwa := hwa.symm
  subst hwa
  go_wp2_with fail
  rw [← HW1.out]
  obtain ⟨ga, hga⟩ : ∃ ga, ga = w.heap.size := ⟨_, rfl⟩
  have HGA := Lib.hid hga
  rw [← hga] at FM ⊢
  clear hga hcell
  refine FM.out.mono ?_
  rintro _ w2 ⟨hm2, ⟨cnt, hst, hc⟩, n, hn, rfl⟩
  have HST := Lib.hid hst
  have HC := Lib.hid hc
  have HRN := Lib.hid hn
  have HF2 : Hid (Fr w w2) := hst.fr
  obtain ⟨bb, hbb⟩ : ∃ bb, decide (n < (keysE E).length ∧ ky (keysE E) n = k) = bb := ⟨_, rfl⟩
  rw [hbb]
  have HBB := Lib.hid hbb
  clear hm2 hst hc hn hbb
  go_wp2_with fail
  refine (GET.out w2 HF2.out).mono ?_
  rintro e3 w3 ⟨hf3, n', hn', he3⟩
  obtain rfl := hn'.unique HRN.out
  rw [HBB.out] at he3
  obtain ⟨x, hx⟩ : ∃ x, getV E n' bb = x := ⟨_, rfl⟩
  rw [hx] at he3
  subst he3
  obtain ⟨xk, xv, xg⟩ := x
  have HF3 : Hid (Fr w w3) := HF2.out.trans hf3
  have HST3 : Hid (w3.heap[ga + 1]? = some (.cells #[.pointer (some ⟨r, 0, none⟩), .slice (some ⟨ga, 0, none⟩) (N + 1) (N + 1)] 80) ∧ w3.heap[ga]? = some (.cells (arr (cnt.map nv)) 3)) := by
    have h1 := HST.out.hm
    have h2 := HST.out.ha
    exact ⟨hf3.blk h1, hf3.blk h2⟩
  clear hf3 hn' hx
  unfold entV
  dsimp only
  go_wp2_with fail
  refine (RK.out _ (HF3.out.alloc _)).mono ?_
  rintro _ w4 ⟨hf4, n2, hn2, rfl⟩
  obtain rfl := hn2.unique HRN.out
  have HF4 : Hid (Fr w w4) := (HF3.out.alloc _).trans hf4
  have hf34 : Fr w3 w4 := ((Fr.refl w3).alloc _).trans hf4
  have HST4 : Hid (w4.heap[ga + 1]? = some (.cells #[.pointer (some ⟨r, 0, none⟩), .slice (some ⟨ga, 0, none⟩) (N + 1) (N + 1)] 80) ∧ w4.heap[ga]? = some (.cells (arr (cnt.map nv)) 3)) := ⟨hf34.blk HST3.out.1, hf34.blk HST3.out.2⟩
  have HLEN : Hid (cnt.length = N + 1) := HST.out.len
  clear hf4 hf34 hn2
  have g0 : ((n2 : Int) != (n2 : Int)) = false := by simp
  have g00 : (bb != bb) = false := by cases bb <;> rfl
  go_wp2_with fail
  go_loopw [10] (fun v wr => ∃ i : Nat, v = .int .i64 i ∧ i ≤ N + 1 ∧ Hid (Fr w4 wr)) (fun v _ => N + 1 - (intOf v).toNat)
  case atStart => exact ⟨0, rfl, by omega, Fr.refl _⟩
  case round =>
    obtain ⟨i, rfl, hin, hf⟩ := hrel
    have y1 : wr.cell? ⟨ga + 1, 1, none⟩ = some (.slice (some ⟨ga, 0, none⟩) (N + 1) (N + 1)) := blk_cell (hf.out.blk HST4.out.1) 1
    rcases Nat.lt_or_ge i (N + 1) with hlt | hge
    · have g1 : decide (i < N + 1) = true := decide_eq_true hlt
      have g2 : (i : Int) < (N : Int) + 1 := by omega
      have g3 : decide ((i : Int) < (N : Int) + 1) = true := decide_eq_true g2
      have hci : i < cnt.length := by have := HLEN.out; omega
      have hle := HC.out i hci
      obtain ⟨x, hx⟩ : ∃ x, cnt[i] = x := ⟨_, rfl⟩
      rw [hx] at hle
      have y2 : wr.cell? ⟨ga, i, none⟩ = some (.int .i64 (x : Int)) := by
        rw [blk_cell (hf.out.blk HST4.out.2), arr_get, List.getElem?_map, List.getElem?_eq_getElem hci, hx]; rfl
      have wi : IntKind.i64.wrap ((i : Int) + 1) = (i : Int) + 1 := wrap_i64_in _ (by omega) (by omega)
      have we : IntKind.i64.wrap (2 * eps) = 2 * eps := wrap_i64_in _ (by have := HEP.out; omega) (by have := HEP.out; omega)
      have we3 : IntKind.i64.wrap (2 * eps + 3) = 2 * eps + 3 := wrap_i64_in _ (by have := HEP.out; omega) (by have := HEP.out; omega)
      have g4 : decide ((x : Int) > 2 * eps + 3) = false := decide_eq_false (by omega)
      have cr := HCELL.out wr (HF4.out.trans hf.out)
      have EE : ∀ w', Fr wr w' → Calls Tryz.prog 40 #[.pointer (some ⟨p, 0, none⟩)] w' fun e w'' => e = .returned (.int .i64 eps) ∧ w'' = w' := fun w' hfx => EPS.out w' (HF4.out.trans (hf.out.trans hfx))
      have HEE := Lib.hid EE
      clear hx hci hle EE
      go_wp2_with fail
      go_quiet ((go_at_call 40; exact Calls.quiet_of_same (HEE.out _ (fr_drewN _ _))))
      go_wp2_with fail
      exact ⟨⟨i + 1, rfl, by omega, hf.out.drewN _⟩, by simp only [intOf]; omega⟩
    · obtain rfl : i = N + 1 := by omega
      have g3 : decide (((N + 1 : Nat) : Int) < (N : Int) + 1) = false := decide_eq_false (by omega)
      have g1 : decide ((N : Int) + 1 < (N : Int) + 1) = false := decide_eq_false (by omega)
      have cr := HCELL.out wr (HF4.out.trans hf.out)
      go_wp2_with fail
      refine (PTH.out wr (HF4.out.trans hf.out)).mono ?_
      rintro _ w5 ⟨A, c, V, rfl, hrd, hlen, hv, hf5⟩
      have HF5 : Hid (Fr w w5) := (HF4.out.trans hf.out).trans hf5
      have HRD := Lib.hid hrd
      have HV := Lib.hid hv
      obtain ⟨M, hM⟩ : ∃ M, V.length = M := ⟨_, rfl⟩
      have hMN : M = N := by rw [← hM, hlen, HN.out]
      rw [hM]
      have HM := Lib.hid hM
      clear hrd hlen hv hf5 hM y1
      have hMl : M ≤ 4294967296 := by omega
      go_wp2_with fail
      go_loopw [12, 13] (fun v u wr => ∃ (j : Nat) (d : Int), v = .int .i64 j ∧ j ≤ M ∧ Hid (Fr w5 wr) ∧ (u = undef ∨ u = .int .i64 d)) (fun v _ _ => M - (intOf v).toNat)
      case atStart => exact ⟨0, 0, rfl, by omega, Fr.refl _, .inl rfl⟩
      case round =>
        obtain ⟨j, d, rfl, hjM, hf2, hu⟩ := hrel
        clear hu
        have cr2 := HCELL.out wr (HF5.out.trans hf2.out)
        rcases Nat.lt_or_ge j M with hlt | hge
        · have k1 : decide (j < M) = true := decide_eq_true hlt
          have k2 : (j : Int) < (M : Int) := by omega
          have hjV : j < V.length := by have := HM.out; omega
          obtain ⟨b0, hvj⟩ := HV.out j hjV
          obtain ⟨o1, o2, o3, o4, o5, o6⟩ := vis_off hvj
          obtain ⟨v, hvv⟩ : ∃ v, V[j] = v := ⟨_, rfl⟩
          rw [hvv] at o1 o2 o3 o4 o5 o6
          obtain ⟨bv, ov, hA, hcv⟩ := (HRD.out.fr hf2.out).at (by rw [flat_len vcells 6 vcells_len]; omega)
          subst hA
          have hg := fun t (ht : t < 6) => get_flat vcells 6 vcells_len V j v t (by rw [List.getElem?_eq_getElem hjV, hvv]) ht
          obtain ⟨v0, v1, v2, v3, v4, v5⟩ := v
          have y2 : wr.cell? ⟨bv, ov + j * 6 + 2, none⟩ = some (.int .i64 v2) := by rw [Nat.add_assoc]; exact hcv (j * 6 + 2) _ (by rw [hg 2 (by decide)]; rfl)
          have y5 : wr.cell? ⟨bv, ov + j * 6 + 5, none⟩ = some (.int .i64 v5) := by rw [Nat.add_assoc]; exact hcv (j * 6 + 5) _ (by rw [hg 5 (by decide)]; rfl)
          dsimp only at o1 o2 o3 o4 o5 o6
          have wj : IntKind.i64.wrap ((j : Int) + 1) = (j : Int) + 1 := wrap_i64_in _ (by omega) (by omega)
          have wd : IntKind.i64.wrap (v2 - v5) = v2 - v5 := wrap_i64_in _ (by omega) (by omega)
          have wn : IntKind.i64.wrap (-(v2 - v5)) = -(v2 - v5) := wrap_i64_in _ (by omega) (by omega)
          have we : IntKind.i64.wrap (eps + 1) = eps + 1 := wrap_i64_in _ (by have := HEP.out; omega) (by have := HEP.out; omega)
          obtain ⟨D, hD⟩ : ∃ D, v2 - v5 = D := ⟨_, rfl⟩
          rw [hD] at wd wn o1 o2
          have HDD := Lib.hid hD
          have wdd : IntKind.i64.wrap (v2 - v5) = D := by rw [hD]; exact wd
          clear hvj hvv hcv hg hjV hD
          by_cases hneg : D < 0
          · have k3 : decide (D < 0) = true := decide_eq_true hneg
            have k4 : decide (-D > eps + 1) = false := decide_eq_false (by omega)
            go_wp2_with fail
            go_quiet (fail)
            go_wp2_with fail
            refine (EPS.out _ (HF5.out.trans (hf2.out.drewN _))).mono ?_
            rintro _ w6 ⟨rfl, hw6⟩
            subst hw6
            go_wp2_with fail
            exact ⟨⟨j + 1, -D, rfl, by omega, hf2.out.drewN _, .inr rfl⟩, by simp only [intOf]; omega⟩
          · have k3 : decide (D < 0) = false := decide_eq_false hneg
            have k4 : decide (D > eps + 1) = false := decide_eq_false (by omega)
            go_wp2_with fail
            go_quiet (fail)
            go_wp2_with fail
            refine (EPS.out _ (HF5.out.trans (hf2.out.drewN _))).mono ?_
            rintro _ w6 ⟨rfl, hw6⟩
            subst hw6
            go_wp2_with fail
            exact ⟨⟨j + 1, D, rfl, by omega, hf2.out.drewN _, .inr rfl⟩, by simp only [intOf]; omega⟩
        · obtain rfl : j = M := by omega
          have k1 : decide (j < j) = false := by simp
          go_wp2_with fail
          refine (HH.out wr (HF5.out.trans hf2.out)).mono ?_
          rintro _ w6 ⟨rfl, hw6⟩
          subst hw6
          have k5 : ((j : Int) == (N : Int)) = true := by rw [hMN]; simp
          go_wp2_with fail
          go_ret
          exact ⟨rfl, HF5.out.trans hf2.out⟩
end Go.Proofs.YtelpbbkmkighfaaGreat
