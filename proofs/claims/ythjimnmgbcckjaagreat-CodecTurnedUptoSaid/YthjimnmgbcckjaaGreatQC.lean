/- Parts of this proof, one behind the other: HullG. -/
import Derived.Deep.RegionWith
import Derived.Deep.DeepCutAuto
import Derived.Test.YthjimnmgbcckjaaGreatQB
namespace Go.Proofs.YthjimnmgbcckjaaGreat
set_option maxRecDepth 100000
open Go.RowKit Go.Inc Go.Run

theorem mv_set1 {g o : Nat} {w w' : World} {v : Value} (h : Mv (one1 g) w w') : Mv (one1 g) w (w'.setCell ⟨g, o, none⟩ v) := Mv.set (S := one1 g) (p := ⟨g, o, none⟩) h (.inl rfl) _

set_option maxHeartbeats 8000000 in
theorem hadd_calls (g base n : Nat) (e0 key last ln ld tn td : Int) (A0 A1 : Option Addr) (c0 c1 : Nat) (l0 l1 : List Pt) (he : 1 ≤ e0 ∧ e0 ≤ 63) (hn : n ≤ 4294967296) (hk : 0 ≤ key ∧ key < 18446744073709551616) (hlast : 0 < n → last < key) (w : World)
    (hfit : FitAt w g base e0 n last ln ld tn td A0 c0 l0 A1 c1 l1) (hne : 0 < n → 0 < l0.length ∧ 0 < l1.length) (hl0 : l0.length ≤ 4294967296) (hl1 : l1.length ≤ 4294967296)
    (hq0 : ∀ q ∈ l0, PtOk q ∧ q.x < key ∧ q.y < (n : Int) + e0) (hq1 : ∀ q ∈ l1, PtOk q ∧ q.x < key) (hch0 : Chain (-1) l0) (hch1 : Chain 1 l1) (hbw : base ≤ w.heap.size)
    (hsl : (0 ≤ ln ∧ ln ≤ 9223372036854775807) ∧ (0 ≤ ld ∧ ld < 18446744073709551616) ∧ (0 ≤ tn ∧ tn ≤ 9223372036854775807) ∧ (0 ≤ td ∧ td < 18446744073709551616)) :
    Calls Tryz.prog 129 #[.pointer (some ⟨g, 0, none⟩), .int .u64 key] w fun r w' => ∃ ln' ld' tn' td', Slopes n l0.reverse l1.reverse key ((n : Int) - e0) ((n : Int) + e0) ln ld tn td ln' ld' tn' td' ∧
      ((0 < n ∧ slBelow tn' td' ln' ld' = true ∧ r = .returned (.tuple #[.bool false, .int .i64 0]) ∧ Fr w w') ∨
       ((0 < n → slBelow tn' td' ln' ld' = false) ∧ r = .returned (.tuple #[.bool true, .int .i64 0]) ∧ ∃ A0' c0' A1' c1', FitAt w' g base e0 (n + 1) key ln' ld' tn' td' A0' c0' (laid (-1) l0 ⟨key, (n : Int) - e0⟩) A1' c1' (laid 1 l1 ⟨key, (n : Int) + e0⟩) ∧
         Mv (fun k => k = g ∨ ablk A0 = some k ∨ ablk A1 = some k) w w')) := by
  have hg := fit_blk hfit
  have HFIT := Lib.hid hfit
  have HNE := Lib.hid hne
  have HCH := Lib.hid (And.intro hch0 hch1)
  have HBW := Lib.hid hbw
  clear hfit hne hch0 hch1 hbw
  have HG := Lib.hid hg
  have HC : Hid (∀ w', Fr w w' → _) := fun w' hf => fit_cells (hf.blk hg)
  obtain ⟨f0, f1, f2, f3, f4, f5, f6, f7, f8⟩ := HC.out w (Fr.refl w)
  obtain ⟨YL, hYL⟩ : ∃ Y, (n : Int) - e0 = Y := ⟨_, rfl⟩
  obtain ⟨YU, hYU⟩ : ∃ Y, (n : Int) + e0 = Y := ⟨_, rfl⟩
  have w3 : IntKind.i64.wrap YL = YL := by rw [← hYL]; exact wrap_i64_in _ (by omega) (by omega)
  have w4 : IntKind.i64.wrap YU = YU := by rw [← hYU]; exact wrap_i64_in _ (by omega) (by omega)
  have HYL := Lib.hid hYL
  have HYU := Lib.hid hYU
  have HL := Lib.hid hlast
  have HQ0 := Lib.hid hq0
  have HQ1 := Lib.hid hq1
  have HSL := Lib.hid hsl
  have HL0 := Lib.hid hl0
  have HL1 := Lib.hid hl1
  have hlt := hk
  have hpL : Hid (PtOk ⟨key, YL⟩) := by rw [Hid, ← hYL]; exact ⟨hk.1, hk.2, by show _ ≤ (n : Int) - e0; omega, by show (n : Int) - e0 ≤ _; omega⟩
  have hpU : Hid (PtOk ⟨key, YU⟩) := by rw [Hid, ← hYU]; exact ⟨hk.1, hk.2, by show _ ≤ (n : Int) + e0; omega, by show (n : Int) + e0 ≤ _; omega⟩
  rw [hYL, hYU]
  clear hg hlast hlt hq0 hq1 hsl hl0 hl1
  go_enter Tryz.func129, Tryz.ntmps129
  go_upto_region 1 with fail
  go_cut [25] (fun st wx => st = .bool false ∧ w = wx)
  case first =>
    by_cases h0 : 0 < n
    · have d1 : decide ((n : Int) > 0) = true := decide_eq_true (by omega)
      have d2 : (0 : Int) < (n : Int) := by omega
      have d3 : decide (key ≤ last) = false := decide_eq_false (by have := HL.out h0; omega)
      go_wp2_with fail
      go_meet
      exact ⟨rfl, rfl⟩
    · have d1 : decide ((n : Int) > 0) = false := decide_eq_false (by omega)
      have d3 : decide (0 < n) = false := decide_eq_false h0
      go_wp2_with fail
      go_meet
      exact ⟨rfl, rfl⟩
  case rest =>
  obtain ⟨rfl, rfl⟩ := hcut
  go_wp2_with fail
  go_cut [6] (fun s6 wx => s6 = .pointer (some ⟨w.heap.size, 0, none⟩) ∧ Hid (wx.heap[w.heap.size]? = some (.cells #[.int .u64 key, .int .i64 YL, .int .u64 key, .int .i64 YU] 199)) ∧ Hid (Fr w wx))
  case first =>
    go_region_held3 (fun w' => w'.cell? ⟨g, 0, none⟩ = some (.int .i64 e0) ∧ w'.cell? ⟨g, 1, none⟩ = some (.int .i64 n))
      (first | exact ⟨f0, f1⟩ | exact ⟨((Fr.refl w).alloc _).cell f0, ((Fr.refl w).alloc _).cell f1⟩)
      (fail)
    go_wp2_with fail
    go_meet
    exact ⟨rfl, by rw [Hid]; exact heap_alloc_new w _, ((Fr.refl w).alloc _).drew⟩
  case rest =>
  obtain ⟨rfl, hb6, hf6⟩ := hcut
  obtain ⟨w6, hw6⟩ : ∃ w6, w6 = wc := ⟨_, rfl⟩
  subst hw6
  clear f0 f1 f2 f3 f4 f5 f6 f7 f8
  obtain ⟨f0, f1, f2, f3, f4, f5, f6, f7, f8⟩ := HC.out w6 hf6.out
  go_wp2_with fail
  go_cut [7, 8] (fun s7 s8 wx => ∃ b7 b8, s7 = .pointer (some ⟨b7, 0, none⟩) ∧ s8 = .pointer (some ⟨b8, 0, none⟩) ∧ b7 ≠ b8 ∧ w6.heap.size ≤ b7 ∧ w6.heap.size ≤ b8 ∧ Hid (wx.heap[b7]? = some (.cells #[.int .u64 ln, .int .u64 ld] 184)) ∧ Hid (wx.heap[b8]? = some (.cells #[.int .u64 tn, .int .u64 td] 184)) ∧ Hid (Fr w6 wx))
  case first =>
    go_region_held3 (fun w' => (w'.cell? ⟨g, 3, none⟩ = some (.int .u64 ln) ∧ w'.cell? ⟨g, 4, none⟩ = some (.int .u64 ld)) ∧ (w'.cell? ⟨g, 5, none⟩ = some (.int .u64 tn) ∧ w'.cell? ⟨g, 6, none⟩ = some (.int .u64 td)))
      (first | exact ⟨⟨f3, f4⟩, f5, f6⟩ | exact ⟨⟨((Fr.refl w6).alloc _).cell f3, ((Fr.refl w6).alloc _).cell f4⟩, ((Fr.refl w6).alloc _).cell f5, ((Fr.refl w6).alloc _).cell f6⟩ | exact ⟨⟨(((Fr.refl w6).alloc _).alloc _).cell f3, (((Fr.refl w6).alloc _).alloc _).cell f4⟩, (((Fr.refl w6).alloc _).alloc _).cell f5, (((Fr.refl w6).alloc _).alloc _).cell f6⟩)
      (fail)
    all_goals (go_wp2_with fail)
    all_goals go_meet
    all_goals
      first
        | exact ⟨w6.heap.size, w6.heap.size + 1, rfl, rfl, by omega, by omega, by omega, by rw [Hid]; exact heap_alloc2_old _ _ _, by rw [Hid]; exact heap_alloc2_new _ _ _, (((Fr.refl w6).alloc _).alloc _).drew⟩
        | exact ⟨w6.heap.size + 1, w6.heap.size, rfl, rfl, by omega, by omega, by omega, by rw [Hid]; exact heap_alloc2_new _ _ _, by rw [Hid]; exact heap_alloc2_old _ _ _, (((Fr.refl w6).alloc _).alloc _).drew⟩
  case rest =>
  obtain ⟨b7, b8, rfl, rfl, hb78, hb7, hb8, hB7, hB8, hf8⟩ := hcut
  obtain ⟨w8, hw8⟩ : ∃ w8, w8 = wc := ⟨_, rfl⟩
  subst hw8
  clear f0 f1 f2 f3 f4 f5 f6 f7 f8
  have hF8 : Hid (Fr w w8) := hf6.out.trans hf8.out
  obtain ⟨f0, f1, f2, f3, f4, f5, f6, f7, f8⟩ := HC.out w8 hF8.out
  go_upto_if 61 with fail
  go_cut [] (fun wx => ∃ ln' ld' tn' td', Hid (Slopes n l0.reverse l1.reverse key YL YU ln ld tn td ln' ld' tn' td') ∧ Hid (0 < n → slBelow tn' td' ln' ld' = false) ∧ Hid (wx.heap[b7]? = some (.cells #[.int .u64 ln', .int .u64 ld'] 184)) ∧ Hid (wx.heap[b8]? = some (.cells #[.int .u64 tn', .int .u64 td'] 184)) ∧ Hid (Fr w6 wx))
  case first =>
    by_cases h0 : 0 < n
    · have d1 : decide ((n : Int) > 0) = true := decide_eq_true (by omega)
      have d2 : (0 : Int) < (n : Int) := by omega
      have H0 := Lib.hid h0
      obtain ⟨p0, p1, p2, p3⟩ := points4 (hf8.out.blk hb6.out)
      clear h0
      go_wp2_with fail
      obtain ⟨gA1, hA1, hce1⟩ := own_pts ((HFIT.out.2.2.1).fr hF8.out) (by simpa using (HNE.out H0.out).2)
      subst hA1
      have HCE1 := Lib.hid hce1
      clear hce1
      refine (touch_up l1.reverse ⟨key, YL⟩ g gA1 l1.length c1 (by simp) (by simpa using (HNE.out H0.out).2) (by simpa using HL1.out) w8 _ (hF8.out.blk HG.out) rfl HCE1.out hpL.out (fun q hq => HQ1.out q (by simpa using hq))).mono ?_
      rintro e wt ⟨r, hr, he, ht1, ht2, hft⟩
      obtain ⟨u, hu⟩ : ∃ u, u = l1.reverse[r] := ⟨_, rfl⟩
      have TU : Hid (Touch 1 l1.reverse ⟨key, YL⟩ u) := ⟨r, hr, hu, ht1, ht2⟩
      have HU := Lib.hid (HQ1.out u (by rw [hu]; exact List.mem_reverse.1 (List.getElem_mem _)))
      rw [← hu] at he
      subst he
      clear hu ht1 ht2 hr
      have hFt : Hid (Fr w6 wt) := hf8.out.trans hft
      have HFT := Lib.hid hft
      obtain ⟨w9, hw9⟩ : ∃ w9, w9 = wt := ⟨_, rfl⟩
      subst hw9
      have hb6a : Hid (∀ o, (w9.alloc o).heap[w.heap.size]? = _) := fun o => ((Fr.refl w9).alloc o).blk (hFt.out.blk hb6.out)
      clear p0 p1 p2 p3 hft
      have p0 := fun o => (points4 (hb6a.out o)).1
      have p1 := fun o => (points4 (hb6a.out o)).2.1
      have p2 := fun o => (points4 (hb6a.out o)).2.2.1
      have p3 := fun o => (points4 (hb6a.out o)).2.2.2
      obtain ⟨ux, uy⟩ := u
      unfold ptVal
      go_upto_if 71 with fail
      go_cut [9] (fun s9 wx => s9 = .pointer (some ⟨w9.heap.size, 0, none⟩) ∧ ∃ ln' ld', Hid ((ln', ld') = newLow ln ld ⟨ux, uy⟩ ⟨key, YL⟩) ∧ Hid (wx.heap[b7]? = some (.cells #[.int .u64 ln', .int .u64 ld'] 184)) ∧ Hid (wx.heap[b8]? = some (.cells #[.int .u64 tn, .int .u64 td] 184)) ∧ Hid (Fr w6 wx))
      case first =>
        by_cases hy : uy < YL
        · have d3 : decide (YL > uy) = true := decide_eq_true hy
          have Hy := Lib.hid hy
          have BT : Hid _ := btw_ok HU.out.1 hpL.out HU.out.2 (Int.le_of_lt Hy.out)
          have HNL : Hid (newLow ln ld ⟨ux, uy⟩ ⟨key, YL⟩ = if slBelow ln ld (btw ⟨ux, uy⟩ ⟨key, YL⟩).1 (btw ⟨ux, uy⟩ ⟨key, YL⟩).2 then btw ⟨ux, uy⟩ ⟨key, YL⟩ else (ln, ld)) := if_pos Hy.out
          have c9 := cells2 (heap_alloc_new w9 (.cells #[.int .u64 ux, .int .i64 uy] 198))
          obtain ⟨c90, c91⟩ := c9
          go_wp2_with fail
          refine (between_btw ⟨ux, uy⟩ ⟨key, YL⟩ HU.out.1 hpL.out HU.out.2 (Int.le_of_lt Hy.out) _).mono ?_
          rintro e wb ⟨rfl, hq⟩
          obtain ⟨⟨bn, bd⟩, hbb⟩ : ∃ b, b = btw ⟨ux, uy⟩ ⟨key, YL⟩ := ⟨_, rfl⟩
          rw [← hbb] at BT HNL ⊢
          clear hbb
          dsimp only
          have hFq : Hid (Fr w6 wb) := (hFt.out.alloc _).trans hq
          have HB7b : Hid (∀ o, (wb.alloc o).heap[b7]? = some (.cells #[.int .u64 ln, .int .u64 ld] 184)) := fun o => ((Fr.refl wb).alloc o).blk (hq.blk (((Fr.refl _).alloc _).blk (HFT.out.blk hB7.out)))
          have HB8b : Hid (∀ o, (wb.alloc o).heap[b8]? = some (.cells #[.int .u64 tn, .int .u64 td] 184)) := fun o => ((Fr.refl wb).alloc o).blk (hq.blk (((Fr.refl _).alloc _).blk (HFT.out.blk hB8.out)))
          have k70 := fun o => (cells2 (HB7b.out o)).1
          have k71 := fun o => (cells2 (HB7b.out o)).2
          clear hq c90 c91
          unfold slVal
          go_wp2_with fail
          refine (below_calls ln ld bn bd HSL.out.1 HSL.out.2.1 BT.out.1 ⟨Int.le_of_lt BT.out.2.1.1, BT.out.2.1.2⟩ _).mono ?_
          rintro e wz ⟨rfl, hz⟩
          obtain ⟨wy, hwy⟩ : ∃ wy, wy = wz := ⟨_, rfl⟩
          subst hwy
          have HB7z : Hid (wy.heap[b7]? = some (.cells #[.int .u64 ln, .int .u64 ld] 184)) := hz.blk (HB7b.out _)
          have HB8z : Hid (wy.heap[b8]? = some (.cells #[.int .u64 tn, .int .u64 td] 184)) := hz.blk (HB8b.out _)
          have HFz : Hid (Fr w6 wy) := (hFq.out.alloc _).trans hz
          obtain ⟨z0, z1⟩ := cells2 (hz.blk (heap_alloc_new wb (.cells #[.int .u64 bn, .int .u64 bd] 184)))
          have y0 := blk_frozen HB7z.out 0
          have y1 := blk_frozen HB7z.out 1
          obtain ⟨y2, y3⟩ := cells2 HB7z.out
          clear hz
          cases hbl : slBelow ln ld bn bd
          · have HBL := Lib.hid hbl
            clear hbl
            go_wp2_with fail
            go_meet
            exact ⟨rfl, ln, ld, by rw [HNL.out, HBL.out]; rfl, HB7z, HB8z, HFz⟩
          · have HBL := Lib.hid hbl
            clear hbl
            go_wp2_with fail
            go_meet
            exact ⟨rfl, bn, bd, by rw [HNL.out, HBL.out]; rfl, blk_set (blk_set HB7z.out 0 _) 1 _, blk_set_ne (blk_set_ne HB8z.out (fun e => hb78 e) _) (fun e => hb78 e) _, (HFz.out.set (p := ⟨b7, 0, none⟩) hb7 _).set (p := ⟨b7, 1, none⟩) hb7 _⟩
        · have d3 : decide (YL > uy) = false := decide_eq_false hy
          have HNL : Hid (newLow ln ld ⟨ux, uy⟩ ⟨key, YL⟩ = (ln, ld)) := if_neg hy
          have hy2 : YL ≤ uy := by omega
          go_wp2_with fail
          go_meet
          exact ⟨rfl, ln, ld, HNL.out.symm, ((Fr.refl _).alloc _).blk (HFT.out.blk hB7.out), ((Fr.refl _).alloc _).blk (HFT.out.blk hB8.out), hFt.out.alloc _⟩
      case rest =>
        obtain ⟨rfl, ln', ld', HN7, HB7c, HB8c, hFc⟩ := hcut
        obtain ⟨wt, hwt⟩ : ∃ wt, wt = wc := ⟨_, rfl⟩
        subst hwt
        clear p0 p1 p2 p3 hb6a f0 f1 f2 f3 f4 f5 f6 f7 f8
        obtain ⟨gA0, hA0, hce0⟩ := own_pts ((HFIT.out.2.1).fr (hf6.out.trans hFc.out)) (by simpa using (HNE.out H0.out).1)
        subst hA0
        have HCE0 := Lib.hid hce0
        clear hce0
        have HPB : Hid (∀ w', Fr wt w' → w'.cell? ⟨w.heap.size, 2, none⟩ = some (.int .u64 key) ∧ w'.cell? ⟨w.heap.size, 3, none⟩ = some (.int .i64 YU)) := fun w' hf => (points4 (hf.blk (hFc.out.blk hb6.out))).2.2
        obtain ⟨p2, p3⟩ := HPB.out wt (Fr.refl _)
        go_upto_region 11 with fail
        go_cut [11] (fun s11 wx => ∃ b11 v, s11 = .pointer (some ⟨b11, 0, none⟩) ∧ Hid (Touch (-1) l0.reverse ⟨key, YU⟩ v) ∧ Hid (PtOk v ∧ v.x < key ∧ v.y < YU) ∧ Hid (wx.heap[b11]? = some (.cells #[.int .u64 (btw v ⟨key, YU⟩).1, .int .u64 (btw v ⟨key, YU⟩).2] 184)) ∧ Hid (Fr wt wx))
        case first =>
          have TC : Hid (∀ w', Fr wt w' → Calls Tryz.prog 139 #[.pointer (some ⟨g, 0, none⟩), .int .i64 0, .agg #[.int .u64 key, .int .i64 YU]] w' fun e w'' => ∃ v : Pt, e = .returned (.agg #[.int .u64 v.x, .int .i64 v.y]) ∧ Hid (Touch (-1) l0.reverse ⟨key, YU⟩ v) ∧ Hid (PtOk v ∧ v.x < key ∧ v.y < YU) ∧ Fr w' w'') := by
            intro w' hf
            refine (touch_low l0.reverse ⟨key, YU⟩ g gA0 l0.length c0 (by simp) (by simpa using (HNE.out H0.out).1) (by simpa using HL0.out) w' _ (hf.blk ((hf6.out.trans hFc.out).blk HG.out)) rfl (fun t q hq => ⟨hf.cell (HCE0.out t q hq).1, hf.cell (HCE0.out t q hq).2⟩) hpU.out (fun q hq => ⟨(HQ0.out q (by simpa using hq)).1, (HQ0.out q (by simpa using hq)).2.1⟩)).mono ?_
            rintro e w'' ⟨r, hr, he, ht1, ht2, hft⟩
            refine ⟨l0.reverse[r], he, ⟨r, hr, rfl, ht1, ht2⟩, ?_, hft⟩
            have := HQ0.out _ (List.mem_reverse.1 (List.getElem_mem hr))
            rw [HYU.out] at this
            exact this
          have BC : Hid (∀ v : Pt, Hid (PtOk v ∧ v.x < key ∧ v.y < YU) → ∀ w', Calls Tryz.prog 140 #[.agg #[.int .u64 v.x, .int .i64 v.y], .agg #[.int .u64 key, .int .i64 YU]] w' fun e w'' => e = .returned (.agg #[.int .u64 (btw v ⟨key, YU⟩).1, .int .u64 (btw v ⟨key, YU⟩).2]) ∧ Fr w' w'') :=
            fun v hv w' => between_btw v ⟨key, YU⟩ hv.out.1 hpU.out hv.out.2.1 (Int.le_of_lt hv.out.2.2) w'
          go_region_held3 (fun w' => w'.cell? ⟨w.heap.size, 2, none⟩ = some (.int .u64 key) ∧ w'.cell? ⟨w.heap.size, 3, none⟩ = some (.int .i64 YU))
            (first
              | exact HPB.out _ ((Fr.refl wt).drew)
              | exact HPB.out _ (((Fr.refl wt).drew).alloc _)
              | exact HPB.out _ hfb
              | exact HPB.out _ (hfb.alloc _)
              | exact HPB.out _ ((hfb.set (p := ⟨_, 0, none⟩) hbz _).set (p := ⟨_, 1, none⟩) hbz _)
              | exact HPB.out _ hfa
              | exact HPB.out _ (hfa.alloc _))
            (first
              | (go_at_call 139; refine (TC.out _ ?_).mono ?_; (first | exact (Fr.refl _).drew | exact ((Fr.refl _).drew).alloc _); rintro e wa ⟨v, rfl, hv1, hv2, hqa⟩; (first | (have hfa : Fr wt wa := ((Fr.refl wt).drew).trans hqa) | (have hfa : Fr wt wa := (((Fr.refl wt).drew).alloc _).trans hqa; have hba : wa.heap[wt.heap.size]? = some (.cells #[.int .u64 0, .int .u64 0] 184) := hqa.blk (heap_alloc_new wt.drew _))))
              | (go_at_call 140; refine (BC.out v hv2 _).mono ?_; rintro e wb ⟨rfl, hqb⟩;
                 (first
                   | (have hfb : Fr wt wb := hfa.trans hqb; have hbb := hqb.blk hba; have hbz : wt.heap.size ≤ wt.heap.size := Nat.le_refl _; have z0 := blk_frozen hbb 0; have z1 := blk_frozen hbb 1; obtain ⟨z2, z3⟩ := cells2 hbb)
                   | (have hfb : Fr wt wb := hfa.trans hqb)
                   | (have hfb : Fr wt wb := (hfa.alloc _).trans hqb; have hbb := hqb.blk (heap_alloc_new wa _); have hbz : wt.heap.size ≤ wa.heap.size := hfa.size; have z0 := blk_frozen hbb 0; have z1 := blk_frozen hbb 1; obtain ⟨z2, z3⟩ := cells2 hbb))))
          all_goals (go_wp2_with fail)
          all_goals go_meet
          all_goals
            first
              | exact ⟨_, v, rfl, hv1, hv2, heap_alloc_new wb _, hfb.alloc _⟩
              | exact ⟨_, v, rfl, hv1, hv2, blk_set (blk_set hbb 0 _) 1 _, (hfb.set (p := ⟨_, 0, none⟩) hbz _).set (p := ⟨_, 1, none⟩) hbz _⟩
        case rest =>
          obtain ⟨b11, v, rfl, TV, HV, HB11, hf11⟩ := hcut
          obtain ⟨wv, hwv⟩ : ∃ wv, wv = wc := ⟨_, rfl⟩
          subst hwv
          clear p2 p3
          have BT : Hid _ := btw_ok HV.out.1 hpU.out HV.out.2.1 (Int.le_of_lt HV.out.2.2)
          have HNT : Hid (newTop tn td v ⟨key, YU⟩ = if slBelow (btw v ⟨key, YU⟩).1 (btw v ⟨key, YU⟩).2 tn td then btw v ⟨key, YU⟩ else (tn, td)) := rfl
          have HNLb : Hid ((0 ≤ ln' ∧ ln' ≤ 9223372036854775807) ∧ (0 ≤ ld' ∧ ld' < 18446744073709551616)) := by
            have h := HN7.out
            unfold newLow at h
            split at h
            · rename_i hlt
              have hb := btw_ok HU.out.1 hpL.out HU.out.2 (Int.le_of_lt hlt)
              split at h
              · obtain ⟨rfl, rfl⟩ : ln' = _ ∧ ld' = _ := Prod.mk.inj h
                exact ⟨hb.1, Int.le_of_lt hb.2.1.1, hb.2.1.2⟩
              · obtain ⟨rfl, rfl⟩ : ln' = _ ∧ ld' = _ := Prod.mk.inj h
                exact ⟨HSL.out.1, HSL.out.2.1⟩
            · obtain ⟨rfl, rfl⟩ : ln' = _ ∧ ld' = _ := Prod.mk.inj h
              exact ⟨HSL.out.1, HSL.out.2.1⟩
          obtain ⟨⟨bn, bd⟩, hbb⟩ : ∃ b, b = btw v ⟨key, YU⟩ := ⟨_, rfl⟩
          rw [← hbb] at BT HNT HB11
          clear hbb
          dsimp only at HB11
          have HB7v : Hid (wv.heap[b7]? = some (.cells #[.int .u64 ln', .int .u64 ld'] 184)) := hf11.out.blk HB7c.out
          have HB8v : Hid (wv.heap[b8]? = some (.cells #[.int .u64 tn, .int .u64 td] 184)) := hf11.out.blk HB8c.out
          obtain ⟨k110, k111⟩ := cells2 HB11.out
          obtain ⟨k80, k81⟩ := cells2 HB8v.out
          go_wp2_with fail
          refine (below_calls bn bd tn td BT.out.1 ⟨Int.le_of_lt BT.out.2.1.1, BT.out.2.1.2⟩ HSL.out.2.2.1 HSL.out.2.2.2 _).mono ?_
          rintro e wz ⟨rfl, hz⟩
          obtain ⟨wy, hwy⟩ : ∃ wy, wy = wz := ⟨_, rfl⟩
          subst hwy
          have HB7z : Hid (wy.heap[b7]? = some (.cells #[.int .u64 ln', .int .u64 ld'] 184)) := hz.blk HB7v.out
          have HB8z : Hid (wy.heap[b8]? = some (.cells #[.int .u64 tn, .int .u64 td] 184)) := hz.blk HB8v.out
          have HFz : Hid (Fr w6 wy) := (hFc.out.trans hf11.out).trans hz
          obtain ⟨z0, z1⟩ := cells2 (hz.blk HB11.out)
          have y0 := blk_frozen HB8z.out 0
          have y1 := blk_frozen HB8z.out 1
          obtain ⟨y2, y3⟩ := cells2 HB8z.out
          clear hz k110 k111 k80 k81
          go_upto_if 89 with fail
          go_cut [] (fun wx => ∃ tn' td', Hid ((tn', td') = newTop tn td v ⟨key, YU⟩) ∧ Hid ((0 ≤ tn' ∧ tn' ≤ 9223372036854775807) ∧ (0 ≤ td' ∧ td' < 18446744073709551616)) ∧ Hid (wx.heap[b7]? = some (.cells #[.int .u64 ln', .int .u64 ld'] 184)) ∧ Hid (wx.heap[b8]? = some (.cells #[.int .u64 tn', .int .u64 td'] 184)) ∧ Hid (Fr w6 wx))
          case first =>
            cases hbl : slBelow bn bd tn td
            · have HBL := Lib.hid hbl
              clear hbl
              go_wp2_with fail
              go_meet
              exact ⟨tn, td, by rw [HNT.out, HBL.out]; rfl, HSL.out.2.2, HB7z, HB8z, HFz⟩
            · have HBL := Lib.hid hbl
              clear hbl
              go_wp2_with fail
              go_meet
              exact ⟨bn, bd, by rw [HNT.out, HBL.out]; rfl, ⟨BT.out.1, Int.le_of_lt BT.out.2.1.1, BT.out.2.1.2⟩, blk_set_ne (blk_set_ne HB7z.out (fun e => hb78 e.symm) _) (fun e => hb78 e.symm) _, blk_set (blk_set HB8z.out 0 _) 1 _, (HFz.out.set (p := ⟨b8, 0, none⟩) hb8 _).set (p := ⟨b8, 1, none⟩) hb8 _⟩
          case rest =>
            obtain ⟨tn', td', HN8, HNTb, HB7y, HB8y, hFy⟩ := hcut
            obtain ⟨wx, hwx⟩ : ∃ wx, wx = wc := ⟨_, rfl⟩
            subst hwx
            clear y0 y1 y2 y3 z0 z1
            obtain ⟨y0, y1⟩ := cells2 HB7y.out
            obtain ⟨y2, y3⟩ := cells2 HB8y.out
            go_wp2_with fail
            refine (below_calls tn' td' ln' ld' HNTb.out.1 HNTb.out.2 HNLb.out.1 HNLb.out.2 _).mono ?_
            rintro e wz ⟨rfl, hz⟩
            have HZ := Lib.hid hz
            have HS : Hid (Slopes n l0.reverse l1.reverse key YL YU ln ld tn td ln' ld' tn' td') := ⟨fun h => absurd H0.out (by omega), fun _ => ⟨⟨ux, uy⟩, v, TU.out, TV.out, HN7.out, HN8.out⟩⟩
            clear hz y0 y1 y2 y3
            cases hbl : slBelow tn' td' ln' ld'
            · have HBL := Lib.hid hbl
              clear hbl
              go_wp2_with fail
              go_meet
              exact ⟨ln', ld', tn', td', HS, fun _ => HBL.out, HZ.out.blk HB7y.out, HZ.out.blk HB8y.out, hFy.out.trans HZ.out⟩
            · have HBL := Lib.hid hbl
              clear hbl
              go_wp2_with fail
              go_ret2
              exact ⟨ln', ld', tn', td', HS, .inl ⟨H0.out, HBL.out, rfl, hf6.out.trans (hFy.out.trans HZ.out)⟩⟩
    · have h00 : Hid (n = 0) := by rw [Hid]; omega
      have d1 : decide ((n : Int) > 0) = false := decide_eq_false (by omega)
      have d3 : decide (0 < n) = false := decide_eq_false h0
      have d4 : ¬ (0 : Int) < (n : Int) := by omega
      go_wp2_with fail
      go_meet
      exact ⟨ln, ld, tn, td, ⟨fun _ => ⟨rfl, rfl, rfl, rfl⟩, fun h => absurd h h0⟩, fun h => absurd h h0, hB7, hB8, hf8⟩
  case rest =>
  obtain ⟨ln', ld', tn', td', HS, HNB, HB7', HB8', hfx⟩ := hcut
  obtain ⟨w10, hw10⟩ : ∃ w10, w10 = wc := ⟨_, rfl⟩
  subst hw10
  clear f0 f1 f2 f3 f4 f5 f6 f7 f8
  have HF10 : Hid (Fr w w10) := hf6.out.trans hfx.out
  have HFX : Hid (FitAt w10 g base e0 n last ln ld tn td A0 c0 l0 A1 c1 l1) := fit_fr HFIT.out HF10.out
  have HPX : Hid (w10.heap[w.heap.size]? = some (.cells #[.int .u64 key, .int .i64 YL, .int .u64 key, .int .i64 YU] 199)) := hfx.out.blk hb6.out
  have HBX : Hid (base ≤ w10.heap.size) := Nat.le_trans HBW.out HF10.out.size
  have HLT : Hid (g < w.heap.size ∧ (∀ k, ablk A0 = some k → k < w.heap.size) ∧ (∀ k, ablk A1 = some k → k < w.heap.size) ∧ w.heap.size ≤ w6.heap.size) := ⟨blk_lt HG.out, fun k hk => (HFIT.out.2.1.lt k hk).2, fun k hk => (HFIT.out.2.2.1.lt k hk).2, hf6.out.size⟩
  go_wp2_with fail
  go_loopw [94] (fun v wr => (v = .int .i64 0 ∧ Hid (wr = w10)) ∨ (v = .int .i64 1 ∧ ∃ A0' c0', Hid (FitAt wr g base e0 n last ln ld tn td A0' c0' (laid (-1) l0 ⟨key, YL⟩) A1 c1 l1) ∧ Hid (Mv (fun k => k = g ∨ ablk A0 = some k) w10 wr)) ∨
      (v = .int .i64 2 ∧ ∃ A0' c0' A1' c1', Hid (FitAt wr g base e0 n last ln ld tn td A0' c0' (laid (-1) l0 ⟨key, YL⟩) A1' c1' (laid 1 l1 ⟨key, YU⟩)) ∧ Hid (Mv (fun k => k = g ∨ ablk A0 = some k ∨ ablk A1 = some k) w10 wr))) (fun v _ => 2 - (intOf v).toNat)
  case atStart => exact .inl ⟨rfl, rfl⟩
  case round =>
    rcases hrel with ⟨rfl, hwr⟩ | ⟨rfl, A0', c0', HFR, HMR⟩ | ⟨rfl, A0', c0', A1', c1', HFR, HMR⟩
    · have e1 := hwr.out
      subst e1
      clear hwr
      obtain ⟨f0, f1, f2, f3, f4, f5, f6, f7, f8⟩ := fit_cells HFX.out.1
      obtain ⟨p0, p1, p2, p3⟩ := points4 HPX.out
      have LC : Hid (∀ w', Fr wr w' → Calls Tryz.prog 142 #[.slice A0 l0.length c0, .agg #[.int .u64 key, .int .i64 YL], .int .i64 0] w' fun e w'' => ∃ A2 c2, e = .returned (.slice A2 (laid (-1) l0 ⟨key, YL⟩).length c2) ∧
          w''.heap[g]? = some (.cells (fitCells e0 n last ln ld tn td (.slice A0 l0.length c0) (.slice A1 l1.length c1)) 196 (0, 0)) ∧ Hid (FitAt (w''.setCell ⟨g, 7, none⟩ (.slice A2 (laid (-1) l0 ⟨key, YL⟩).length c2)) g base e0 n last ln ld tn td A2 c2 (laid (-1) l0 ⟨key, YL⟩) A1 c1 l1) ∧
          Hid (Mv (fun k => k = g ∨ ablk A0 = some k) w' (w''.setCell ⟨g, 7, none⟩ (.slice A2 (laid (-1) l0 ⟨key, YL⟩).length c2)))) := by
        intro w' hf
        refine (laid_calls l0 ⟨key, YL⟩ 0 (-1) bend_low (.inr rfl) A0 c0 base w' (HFX.out.2.1.fr hf) HL0.out hpL.out (fun q hq => ⟨(HQ0.out q hq).1, (HQ0.out q hq).2.1⟩) HCH.out.1 (Nat.le_trans HBX.out hf.size)).mono ?_
        rintro e w'' ⟨A2, c2, rfl, hown, hmv, hab⟩
        obtain ⟨h1, h2, h3⟩ := fit_step0 (fit_fr HFX.out hf) hmv hown hab
        exact ⟨A2, c2, rfl, h1, h2, h3⟩
      go_upto_region 19 with fail
      go_region_with (go_at_call 142; refine (LC.out _ ?_).mono ?_; exact (Fr.refl _).drew; rintro e wa ⟨A2, c2, rfl, hbg, hfit2, hmv2⟩; have z7 := blk_frozen hbg 7; have y7 := (fit_cells hbg).2.2.2.2.2.2.2.1)
      all_goals (go_wp2_with fail)
      all_goals exact ⟨.inr (.inl ⟨rfl, A2, c2, hfit2, (Mv.of_fr ((Fr.refl wr).drew)).trans' hmv2.out⟩), by simp [intOf]⟩
    · have HPR : Hid (wr.heap[w.heap.size]? = some (.cells #[.int .u64 key, .int .i64 YL, .int .u64 key, .int .i64 YU] 199)) := HMR.out.blk HPX.out (fun h => by
        have h1 := HLT.out.1
        rcases h with h | h
        · omega
        · have := HLT.out.2.1 _ h; omega)
      obtain ⟨f0, f1, f2, f3, f4, f5, f6, f7, f8⟩ := fit_cells HFR.out.1
      obtain ⟨p0, p1, p2, p3⟩ := points4 HPR.out
      obtain ⟨L0, hL0⟩ : ∃ L, L = laid (-1) l0 ⟨key, YL⟩ := ⟨_, rfl⟩
      rw [← hL0] at HFR f7 ⊢
      have LC : Hid (∀ w', Fr wr w' → Calls Tryz.prog 142 #[.slice A1 l1.length c1, .agg #[.int .u64 key, .int .i64 YU], .int .i64 1] w' fun e w'' => ∃ A2 c2, e = .returned (.slice A2 (laid 1 l1 ⟨key, YU⟩).length c2) ∧
          w''.heap[g]? = some (.cells (fitCells e0 n last ln ld tn td (.slice A0' L0.length c0') (.slice A1 l1.length c1)) 196 (0, 0)) ∧ Hid (FitAt (w''.setCell ⟨g, 8, none⟩ (.slice A2 (laid 1 l1 ⟨key, YU⟩).length c2)) g base e0 n last ln ld tn td A0' c0' L0 A2 c2 (laid 1 l1 ⟨key, YU⟩)) ∧
          Hid (Mv (fun k => k = g ∨ ablk A1 = some k) w' (w''.setCell ⟨g, 8, none⟩ (.slice A2 (laid 1 l1 ⟨key, YU⟩).length c2)))) := by
        intro w' hf
        refine (laid_calls l1 ⟨key, YU⟩ 1 1 bend_up (.inl rfl) A1 c1 base w' (HFR.out.2.2.1.fr hf) HL1.out hpU.out HQ1.out HCH.out.2 (Nat.le_trans HBX.out (Nat.le_trans HMR.out.size hf.size))).mono ?_
        rintro e w'' ⟨A2, c2, rfl, hown, hmv, hab⟩
        obtain ⟨h1, h2, h3⟩ := fit_step1 (fit_fr HFR.out hf) hmv hown hab
        exact ⟨A2, c2, rfl, h1, h2, h3⟩
      have HL0' := Lib.hid hL0
      clear hL0
      go_upto_region 19 with fail
      go_region_with (go_at_call 142; refine (LC.out _ ?_).mono ?_; exact (Fr.refl _).drew; rintro e wa ⟨A2, c2, rfl, hbg, hfit2, hmv2⟩; have z7 := blk_frozen hbg 8; have y7 := (fit_cells hbg).2.2.2.2.2.2.2.2)
      all_goals (go_wp2_with fail)
      all_goals exact ⟨.inr (.inr ⟨rfl, A0', c0', A2, c2, hfit2, (HMR.out.mono (fun i h => .inl (h.imp id .inl))).trans ((Mv.of_fr ((Fr.refl wr).drew)).trans' hmv2.out) (fun i h => .inl (h.imp id .inr))⟩), by simp [intOf]⟩
    · have HR7 : Hid (wr.heap[b7]? = some (.cells #[.int .u64 ln', .int .u64 ld'] 184)) := HMR.out.blk HB7'.out (fun h => by
        have h1 := HLT.out
        rcases h with h | h | h
        · omega
        · have := HLT.out.2.1 _ h; omega
        · have := HLT.out.2.2.1 _ h; omega)
      have HR8 : Hid (wr.heap[b8]? = some (.cells #[.int .u64 tn', .int .u64 td'] 184)) := HMR.out.blk HB8'.out (fun h => by
        have h1 := HLT.out
        rcases h with h | h | h
        · omega
        · have := HLT.out.2.1 _ h; omega
        · have := HLT.out.2.2.1 _ h; omega)
      have hb7g : b7 ≠ g := by have := HLT.out; omega
      have hb8g : b8 ≠ g := by have := HLT.out; omega
      have HBG := HFR.out.1
      obtain ⟨L0, hL0⟩ : ∃ L, L = laid (-1) l0 ⟨key, YL⟩ := ⟨_, rfl⟩
      obtain ⟨L1, hL1⟩ : ∃ L, L = laid 1 l1 ⟨key, YU⟩ := ⟨_, rfl⟩
      rw [← hL0, ← hL1] at HFR HBG
      have HBH := Lib.hid HBG
      clear HBG
      obtain ⟨f0, f1, f2, f3, f4, f5, f6, f7, f8⟩ := fit_cells HBH.out
      have z1 := blk_frozen HBH.out 1
      have z2 := blk_frozen HBH.out 2
      have z3 := blk_frozen HBH.out 3
      have z4 := blk_frozen HBH.out 4
      have z5 := blk_frozen HBH.out 5
      have z6 := blk_frozen HBH.out 6
      obtain ⟨k70, k71⟩ := cells2 HR7.out
      obtain ⟨k80, k81⟩ := cells2 HR8.out
      have hw1 : IntKind.i64.wrap ((n : Int) + 1) = (n : Int) + 1 := wrap_i64_in _ (by omega) (by omega)
      have HL0' := Lib.hid hL0
      have HL1' := Lib.hid hL1
      clear hL0 hL1 f7 f8
      have HC : Hid (∀ w', Mv (one1 g) wr w' → (w'.cell? ⟨b7, 0, none⟩ = some (.int .u64 ln') ∧ w'.cell? ⟨b7, 1, none⟩ = some (.int .u64 ld')) ∧ (w'.cell? ⟨b8, 0, none⟩ = some (.int .u64 tn') ∧ w'.cell? ⟨b8, 1, none⟩ = some (.int .u64 td'))) :=
        fun w' hm => ⟨cells2 (hm.blk HR7.out hb7g), cells2 (hm.blk HR8.out hb8g)⟩
      go_wp2_with fail
      go_region_held3 (fun w' => (w'.cell? ⟨b7, 0, none⟩ = some (.int .u64 ln') ∧ w'.cell? ⟨b7, 1, none⟩ = some (.int .u64 ld')) ∧ (w'.cell? ⟨b8, 0, none⟩ = some (.int .u64 tn') ∧ w'.cell? ⟨b8, 1, none⟩ = some (.int .u64 td')))
        ((refine HC.out _ ?_; repeat (first | exact Mv.refl _ _ | refine Mv.drew ?_ | refine mv_set1 ?_)))
        (fail)
      obtain ⟨ws, hws⟩ : ∃ ws, ws = (((((wr.setCell ⟨g, 3, none⟩ (.int .u64 ln')).setCell ⟨g, 4, none⟩ (.int .u64 ld')).setCell ⟨g, 5, none⟩ (.int .u64 tn')).setCell ⟨g, 6, none⟩ (.int .u64 td')).setCell ⟨g, 2, none⟩ (.int .u64 key)).drew := ⟨_, rfl⟩
      have hsm : Mv (one1 g) wr ws := by rw [hws]; exact Mv.drew (mv_set1 (mv_set1 (mv_set1 (mv_set1 (mv_set1 (Mv.refl _ wr))))))
      have hsb : ws.heap[g]? = some (.cells (fitCells e0 n key ln' ld' tn' td' (.slice A0' L0.length c0') (.slice A1' L1.length c1')) 196 (0, 0)) := by
        rw [hws]
        exact blk_set (blk_set (blk_set (blk_set (blk_set HBH.out 3 _) 4 _) 5 _) 6 _) 2 _
      rw [← hws]
      have HSM := Lib.hid hsm
      have HSB := Lib.hid hsb
      clear hws hsm hsb f0 f1 f2 f3 f4 f5 f6 z1 z2 z3 z4 z5 z6 k70 k71 k80 k81
      obtain ⟨f0, f1, f2, f3, f4, f5, f6, f7, f8⟩ := fit_cells HSB.out
      have z1 := blk_frozen HSB.out 1
      clear f7 f8
      go_wp2_with fail
      go_ret2
      refine ⟨ln', ld', tn', td', HS, .inr ⟨HNB.out, rfl, A0', c0', A1', c1', ?_, ?_⟩⟩
      · rw [← HL0'.out, ← HL1'.out]
        exact fit_set HFR.out (mv_set1 HSM.out) (by rw [blk_set HSB.out 1]; rfl)
      · refine (Mv.of_fr HF10.out).trans' ((HMR.out.then (Fr.refl _)).trans' ?_ |>.mono (fun i h => .inl h))
        exact (mv_set1 HSM.out).mono (fun i h => .inl (.inl h))
end Go.Proofs.YthjimnmgbcckjaaGreat
