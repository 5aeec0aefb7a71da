/- Parts of this proof, one behind the other: Rf6, Rf7, Of11, Low. -/
import Derived.Deep.RegionHeld3
import Derived.Test.YthjimnmgbcckjaaGreatQN
import Derived.Test.YthjimnmgbcckjaaGreatQJ
import Derived.Test.YthjimnmgbcckjaaGreatQH
namespace Go.Proofs.YthjimnmgbcckjaaGreat
set_option maxRecDepth 100000
open Go.RowKit Go.Inc Go.Run
attribute [local go_sem] run_store_float

set_option maxHeartbeats 8000000 in
theorem r8check_calls (L : List Int) (A : Option Addr) (n c : Nat) (eps : Int) (Av : Option Addr) (N cv : Nat) (vs : List Value) (Ss : List (List Seg)) (hn : n = L.length) (hc : n ≤ c) (hl : L.length ≤ 268435456) (hK : KeysOk L) (hN : N = Ss.length) (hNl : N ≤ 268435456)
    (hS : ∀ S ∈ Ss, S.length ≤ 268435456 ∧ ∀ s ∈ S, SegFit s) (w : World) (hr : RdC w A (L.map uv)) (hrv : RdC w Av vs) (hrows : RowsR w vs Ss) :
    Calls Tryz.prog 67 #[.slice A n c, .int .i64 eps, .slice Av N cv] w fun e w' => e = .returned (.int .i64 (checkV eps L Ss)) ∧ Fr w w' := by
  have HR := Lib.hid hr
  have HN := Lib.hid hn
  have HK := Lib.hid hK
  have HNV := Lib.hid hN
  have HS := Lib.hid hS
  have HRV := Lib.hid hrv
  have HROWS := Lib.hid hrows
  have hln : n ≤ 268435456 := by omega
  have HCC := Lib.hid hc
  clear hr hn hK hN hS hrv hrows hc hl
  by_cases h1 : 2 ≤ eps
  · have d1 : decide (eps < 2) = false := decide_eq_false (by omega)
    by_cases h2 : eps ≤ 64
    · have d2 : decide (eps > 64) = false := decide_eq_false (by omega)
      obtain ⟨e, rfl⟩ := Int.eq_ofNat_of_zero_le (show 0 ≤ eps by omega)
      have heN : 2 ≤ e ∧ e ≤ 64 := by omega
      have d1' : decide (e < 2) = false := decide_eq_false (by omega)
      have d2' : decide (64 < e) = false := decide_eq_false (by omega)
      have RIS := Lib.hid (fun w' (hf : Fr w w') => r3rising_calls L A n c HN.out (by have := HN.out; omega) w' (HR.out.fr hf))
      have HCV : Hid (checkV (e : Int) L Ss = if ¬ Rise L then 80 else if ¬ (Ss.length ≤ maxH e 4294967296 ∧ (Ss.length = 0 ↔ L.length = 0)) then 81 else levelsV (e : Int) (Ss.length == 0) L Ss) := by
        rw [Hid]; unfold checkV; rw [if_neg (fun h => h ⟨h1, h2⟩), Int.toNat_natCast]
      obtain ⟨V, hV⟩ : ∃ V, checkV (e : Int) L Ss = V := ⟨_, rfl⟩
      rw [hV] at HCV ⊢
      by_cases hR : Rise L
      · have dR : decide (Rise L) = true := decide_eq_true hR
        obtain ⟨H, hH⟩ : ∃ H, maxH e 4294967296 = H := ⟨_, rfl⟩
        have MX := Lib.hid (fun w => r8max_calls e heN 4294967296 (by decide) (by decide) w)
        rw [hH] at MX HCV
        have HRI := Lib.hid hR
        rw [if_neg (fun h => h hR)] at HCV
        clear hV hR hH
        go_enter Tryz.func67, Tryz.ntmps67
        go_wp2_with fail
        refine (RIS.out w (Fr.refl w)).mono ?_
        rintro r w3 ⟨rfl, hf3⟩
        have HF3 := Lib.hid hf3
        rw [dR]
        clear hf3 dR
        go_wp2_with fail
        refine (MX.out _).mono ?_
        rintro r w2 ⟨rfl, hf2⟩
        have HF2 : Hid (Fr w w2) := HF3.out.trans hf2
        clear hf2
        by_cases c1 : N ≤ H
        · have e1 : decide (H < N) = false := decide_eq_false (by omega)
          have e1i : decide ((N : Int) > (H : Int)) = false := decide_eq_false (by omega)
          by_cases c2 : (N = 0 ↔ n = 0)
          · obtain ⟨bz, a1⟩ : ∃ bz, ((N : Int) == 0) = bz := ⟨_, rfl⟩
            have a2 : ((n : Int) == 0) = bz := by
              rw [← a1]
              by_cases hz : N = 0
              · have := c2.1 hz; rw [hz, this]
              · have : ¬ n = 0 := fun h => hz (c2.2 h)
                have a1 : ((N : Int) == 0) = false := by rw [beq_eq_false_iff_ne]; omega
                have a2 : ((n : Int) == 0) = false := by rw [beq_eq_false_iff_ne]; omega
                rw [a1, a2]
            have e2 : (bz != bz) = false := by cases bz <;> rfl
            have HV2 : Hid (V = levelsV (e : Int) (Ss.length == 0) L Ss) := by
              rw [Hid, HCV.out, if_neg (fun h => h ⟨by have := HNV.out; omega, by rw [← HNV.out, ← HN.out]; exact c2⟩)]
            have hz0 : Hid ((Ss.length == 0) = (N == 0)) := by rw [Hid, HNV.out]
            have hpos : Hid (0 < N → 0 < n) := fun h => by
              rcases Nat.eq_zero_or_pos n with h3 | h3
              · have := c2.2 h3; omega
              · exact h3
            clear HCV c2
            go_wp2_with fail
            go_loopw [0, 7] (fun vb v wr => ∃ (j : Nat) (K : List Int) (Ab : Option Addr) (nb cb : Nat), vb = .slice Ab nb cb ∧ v = .int .i64 j ∧ j ≤ N ∧ Hid (nb = K.length) ∧ nb ≤ cb ∧ nb ≤ 268435456 ∧ Hid (Rise K) ∧ Hid (KeysOk K) ∧ Hid (0 < N → 0 < nb) ∧ Hid (0 < j → nb = (Ss.getD (j - 1) []).length) ∧ Hid (RdC wr Ab (K.map uv)) ∧ Hid (V = levelsV (e : Int) (Ss.length == 0) K (Ss.drop j)) ∧ Hid (Fr w wr)) (fun _ v _ => N - (intOf v).toNat)
            case atStart => exact ⟨0, L, A, n, c, rfl, rfl, by omega, HN.out, HCC.out, hln, HRI.out, HK.out, hpos.out, fun h => absurd h (by omega), HR.out.fr HF2.out, by rw [Hid, List.drop_zero]; exact HV2.out, HF2.out⟩
            case round =>
              obtain ⟨j, K, Ab, nb, cb, rfl, rfl, hjN, hnb, hnc, hnl, hKr, hKk, hKp, hKl, hKrd, hVj, hfj⟩ := hrel
              obtain ⟨wo, hwo⟩ : ∃ wo, wo = wr := ⟨_, rfl⟩
              subst hwo
              rcases Nat.lt_or_ge j N with hlt | hge
              · have g1 : decide (j < N) = true := decide_eq_true hlt
                have g0 : (j : Int) < (N : Int) := by omega
                have hnb0 : 0 < nb := hKp.out (by omega)
                have hjS : j < Ss.length := by have := HNV.out; omega
                obtain ⟨S, hS⟩ : ∃ S, Ss[j] = S := ⟨_, rfl⟩
                have hSj : Ss[j]? = some S := by rw [List.getElem?_eq_getElem hjS, hS]
                obtain ⟨As, cs, hvs, hcs, hrs⟩ := HROWS.out.at hSj
                obtain ⟨bv, ov, hAv, hcv⟩ := HRV.out.at (by have := HROWS.out.len; have := HNV.out; omega)
                subst hAv
                have hx0 := hcv j _ hvs
                have hVj2 := hVj.out
                rw [List.drop_eq_getElem_cons hjS, hS] at hVj2
                have HVJ : Hid (V = if tilesOk S 0 (K.length : Int) = false then 82 else if segsV (e : Int) K S ≠ 0 then segsV (e : Int) K S else levelsV (e : Int) (Ss.length == 0) (firstsOf S) (Ss.drop (j + 1))) := hVj2
                have hSok := HS.out S (by rw [← hS]; exact List.getElem_mem hjS)
                obtain ⟨M, hM⟩ : ∃ M, S.length = M := ⟨_, rfl⟩
                rw [hM] at hx0 hcs hSok
                have HX0 : Hid (∀ w', Fr w w' → w'.cell? ⟨bv, ov + j, none⟩ = some (.slice As M cs)) := fun w' h => h.cell hx0
                have hMb : M ≤ 268435456 := hSok.1
                have HSOK := Lib.hid hSok.2
                have HM := Lib.hid hM
                have HGD : Hid (Ss.getD (j + 1 - 1) [] = S) := by
                  rw [Hid, Nat.add_sub_cancel, List.getD_eq_getElem?_getD, hSj]; rfl
                have TI := Lib.hid (fun w' (hf : Fr w w') => r8tiles_calls S As M cs (nb : Int) hM.symm (by omega) (by omega) w' (hrs.fr hf))
                have HRS := Lib.hid hrs
                have wi : IntKind.i64.wrap ((j : Int) + 1) = (j : Int) + 1 := wrap_i64_in _ (by omega) (by omega)
                have x0 := HX0.out wo hfj.out
                clear hcv hvs hSj hS hVj2 hVj hSok hM hrs hcs hx0
                go_wp2_with fail
                refine (TI.out wo hfj.out).mono ?_
                rintro r w4 ⟨rfl, hf4⟩
                have HF4 : Hid (Fr w w4) := hfj.out.trans hf4
                have HKRD4 : Hid (RdC w4 Ab (K.map uv)) := hKrd.out.fr hf4
                have hTpos : tilesOk S 0 (nb : Int) = true → 0 < M := fun h => by
                  have := tiles_pos h (by omega)
                  have := HM.out; omega
                clear x0 hf4
                cases hT : tilesOk S 0 (nb : Int) with
                | true =>
                  have hM0 := hTpos hT
                  have HT : Hid (tilesOk S 0 (nb : Int) = true) := hT
                  have e5 : (decide (0 < M) && true) = true := by rw [decide_eq_true hM0]; rfl
                  have HV4 : Hid (V = if segsV (e : Int) K S ≠ 0 then segsV (e : Int) K S else levelsV (e : Int) (Ss.length == 0) (firstsOf S) (Ss.drop (j + 1))) := by
                    rw [Hid, HVJ.out, ← hnb.out, HT.out]; rfl
                  rw [e5]
                  clear HVJ hT hTpos e5
                  go_wp2_with fail
                  go_loopw [8] (fun v wr => ∃ i : Nat, v = .int .i64 i ∧ i ≤ M ∧ Hid (segsV (e : Int) K S = segsV (e : Int) K (S.drop i)) ∧ Hid (∀ k (hk : k < S.length), k < i → S[k].first = ky K S[k].frm.toNat) ∧ Hid (RdC wr Ab (K.map uv)) ∧ Hid (Fr w wr)) (fun v _ => M - (intOf v).toNat)
                  case atStart => exact ⟨0, rfl, by omega, by rw [Hid, List.drop_zero], fun k hk h => by omega, HKRD4.out, HF4.out⟩
                  case round =>
                    obtain ⟨i, rfl, hiM, hsv, hfi, hkr5, hf5⟩ := hrel
                    have x0 := HX0.out wr hf5.out
                    rcases Nat.lt_or_ge i M with hlt2 | hge2
                    · have g2 : decide (i < M) = true := decide_eq_true hlt2
                      have g02 : (i : Int) < (M : Int) := by omega
                      have hiS : i < S.length := by have := HM.out; omega
                      obtain ⟨ba, oa, hAa, hca⟩ := rdc_seg (HRS.out.fr hf5.out) (by omega)
                      subst hAa
                      obtain ⟨z0, z1, z2, z3, z4⟩ := hca i hiS
                      have hta := tiles_at HT.out (Int.le_refl 0) i hiS
                      obtain ⟨s, hs⟩ : ∃ s, S[i] = s := ⟨_, rfl⟩
                      have hsfit := HSOK.out s (by rw [← hs]; exact List.getElem_mem hiS)
                      have hsv2 := hsv.out
                      rw [List.drop_eq_getElem_cons hiS, hs] at hsv2
                      rw [hs] at z0 z1 z2 z3 z4 hta
                      have HSI := Lib.hid hs
                      obtain ⟨sf, sl, it, fr, up⟩ := s
                      dsimp only at z0 z1 z2 z3 z4 hta
                      obtain ⟨fn, rfl⟩ := Int.eq_ofNat_of_zero_le hta.1
                      obtain ⟨un, rfl⟩ := Int.eq_ofNat_of_zero_le (show 0 ≤ up by omega)
                      have hfu : fn < un := by omega
                      have hun : un ≤ nb := by omega
                      have HSV : Hid (segsV (e : Int) K S = segsV (e : Int) K (⟨sf, sl, it, fn, un⟩ :: S.drop (i + 1))) := hsv2
                      have HSF := Lib.hid hsfit
                      have wi2 : IntKind.i64.wrap ((i : Int) + 1) = (i : Int) + 1 := wrap_i64_in _ (by omega) (by omega)
                      have hba := heap_alloc_new wr (.cells #[.int .u64 sf, .float .f64 sl, .float .f64 it, .int .i64 (fn : Int), .int .i64 (un : Int)] 65)
                      have HBA := Lib.hid hba
                      obtain ⟨y0, y1, y2, y3, y4⟩ := cells5 hba
                      obtain ⟨w5, hw5⟩ : ∃ w5, w5 = wr.alloc (.cells #[.int .u64 sf, .float .f64 sl, .float .f64 it, .int .i64 (fn : Int), .int .i64 (un : Int)] 65) := ⟨_, rfl⟩
                      have HF5 : Hid (Fr w w5) := by rw [hw5]; exact hf5.out.alloc _
                      have HKR5 : Hid (RdC w5 Ab (K.map uv)) := by rw [hw5]; exact hkr5.out.fr ((Fr.refl _).alloc _)
                      obtain ⟨C, hC⟩ : ∃ C, chk ⟨sf, sl, it, fn, un⟩ = C := ⟨_, rfl⟩
                      have MC := Lib.hid (r7check_calls ⟨sf, sl, it, fn, un⟩ hsfit.1)
                      rw [hC] at MC
                      unfold segVal at MC
                      dsimp only at MC
                      have HC := Lib.hid hC
                      obtain ⟨bx, hbx⟩ : ∃ bx, bx = wr.heap.size := ⟨_, rfl⟩
                      clear hca hta hsv2 hsv hsfit hba hs hC
                      go_wp2_with fail
                      rw [← hw5, ← hbx]
                      rw [← hw5, ← hbx] at HBA
                      refine (MC.out w5).mono ?_
                      rintro r w6 ⟨rfl, hf6⟩
                      have HF6 : Hid (Fr w w6) := HF5.out.trans hf6
                      have HKR6 : Hid (RdC w6 Ab (K.map uv)) := HKR5.out.fr hf6
                      have HB6 := Lib.hid (hf6.blk HBA.out)
                      clear hf6 y0 y1 y2 y3 y4 z0 z1 z2 z3 z4 hw5 hbx x0
                      obtain ⟨y0, y1, y2, y3, y4⟩ := cells5 HB6.out
                      by_cases hc0 : C = 0
                      · subst hc0
                        have HOK : Hid (SegOk ⟨sf, sl, it, fn, un⟩) := chk_ok.1 HC.out
                        obtain ⟨bk, ok, hAk, hck⟩ := rdc_ky HKR6.out (by have := hnb.out; omega)
                        subst hAk
                        have z0 := hck fn (by have := hnb.out; omega)
                        obtain ⟨kf, hkf⟩ : ∃ kf, ky K fn = kf := ⟨_, rfl⟩
                        rw [hkf] at z0
                        have HKF := Lib.hid hkf
                        have gf : (fn : Int) < (nb : Int) := by omega
                        clear hck hkf
                        go_wp2_with fail
                        go_quiet (fail)
                        obtain ⟨w7, hw7⟩ : ∃ w7, w7 = w6.drewN nq := ⟨_, rfl⟩
                        have HF7 : Hid (Fr w w7) := by rw [hw7]; exact HF6.out.drewN _
                        have HB7 : Hid (w7.heap[bx]? = some (.cells #[.int .u64 sf, .float .f64 sl, .float .f64 it, .int .i64 (fn : Int), .int .i64 (un : Int)] 65 (0, 0))) := by rw [hw7]; exact HB6.out
                        have HKR7 : Hid (RdC w7 (some ⟨bk, ok, none⟩) (K.map uv)) := by rw [hw7]; exact HKR6.out.fr (fr_drewN _ _)
                        rw [← hw7]
                        clear hw7 y0 y1 y2 y3 y4 z0
                        obtain ⟨y0, y1, y2, y3, y4⟩ := cells5 HB7.out
                        by_cases hk0 : sf = kf
                        · subst hk0
                          have e4 : (sf != sf) = false := by simp
                          have HOFFY : Hid (offOk (e : Int) K ⟨sf, sl, it, fn, un⟩ → segsV (e : Int) K S = segsV (e : Int) K (S.drop (i + 1))) := by
                            intro h
                            rw [HSV.out]
                            conv => lhs; unfold segsV
                            rw [if_neg (fun h => h HC.out), if_neg (fun h => h (by show sf = ky K (fn : Int).toNat; rw [Int.toNat_natCast, HKF.out])), if_pos h]
                          have HOFFN : Hid (¬ offOk (e : Int) K ⟨sf, sl, it, fn, un⟩ → segsV (e : Int) K S = 85) := by
                            intro h
                            rw [HSV.out]
                            conv => lhs; unfold segsV
                            rw [if_neg (fun h => h HC.out), if_neg (fun h => h (by show sf = ky K (fn : Int).toNat; rw [Int.toNat_natCast, HKF.out])), if_neg h]
                          obtain ⟨A3, hA3, _, hA3r⟩ := run_cut_lh (P := Tryz.prog) 57 50 1 Tryz.underlying57 (by kernel_rfl) (some ⟨bk, ok, none⟩) nb cb fn un (fn : Int) (un : Int) rfl rfl (by omega) (by omega) .i64 .i64
                          have hsl := seg_len (L := K) (s := fn) (t := un) (by omega) (by have := hnb.out; omega)
                          have MOF : Hid (∀ w', Fr w7 w' → Calls Tryz.prog 98 #[.agg #[.int .u64 sf, .float .f64 sl, .float .f64 it, .int .i64 (fn : Int), .int .i64 (un : Int)], .slice A3 (un - fn) (cb - fn)] w' fun r w'' => ∃ x, r = .returned (.tuple #[.int .i64 x, .int .i64 0]) ∧ IsOff ⟨sf, sl, it, fn, un⟩ (seg K fn un) (un - fn) x ∧ Fr w' w'') := by
                            intro w' hf
                            refine r7off_calls ⟨sf, sl, it, fn, un⟩ (seg K fn un) A3 (un - fn) (cb - fn) HSF.out HOK.out hsl.symm (seg_rise hKr.out _ _) (seg_ok hKk.out _ _) (by show (un : Int) - fn = _; omega) ?_ w' ?_
                            · show ky (seg K fn un) 0 = sf
                              rw [seg_ky (by omega)]; exact HKF.out
                            · have h1 := hA3r w' (K.map uv) (by rw [List.length_map, Nat.mul_one]; exact hnb.out.symm) hun (HKR7.out.fr hf)
                              rw [Nat.mul_one, Nat.mul_one, List.drop_take, ← seg_map] at h1
                              exact h1
                          have HCC7 : Hid (∀ w', Fr w7 w' → w'.cell? ⟨bx, 0, none⟩ = some (.int .u64 sf) ∧ w'.cell? ⟨bx, 1, none⟩ = some (.float .f64 sl) ∧ w'.cell? ⟨bx, 2, none⟩ = some (.float .f64 it) ∧ w'.cell? ⟨bx, 3, none⟩ = some (.int .i64 (fn : Int)) ∧ w'.cell? ⟨bx, 4, none⟩ = some (.int .i64 (un : Int))) :=
                            fun w' hf => cells5 (hf.blk HB7.out)
                          clear hA3r hsl
                          go_wp2_with fail
                          go_region_held3 (fun w' => w'.cell? ⟨bx, 0, none⟩ = some (.int .u64 sf) ∧ w'.cell? ⟨bx, 1, none⟩ = some (.float .f64 sl) ∧ w'.cell? ⟨bx, 2, none⟩ = some (.float .f64 it) ∧ w'.cell? ⟨bx, 3, none⟩ = some (.int .i64 (fn : Int)) ∧ w'.cell? ⟨bx, 4, none⟩ = some (.int .i64 (un : Int)))
                            (first | exact HCC7.out _ (Fr.refl _) | exact HCC7.out _ (Fr.refl _).drew | exact HCC7.out _ hfb.out)
                            (first | (go_at_call 98; refine (MOF.out _ (Fr.refl _).drew).mono ?_; rintro r wb ⟨x, rfl, hx, hqb⟩; have hfb : Hid (Fr w7 wb) := (Fr.refl w7).drew.trans hqb))
                          have HX : Hid (x ≤ (e : Int) ↔ offOk (e : Int) K ⟨sf, sl, it, fn, un⟩) := by
                            rw [Hid, hx.iff (by omega)]
                            unfold offOk
                            dsimp only
                            have e5 : ((un : Int) - (fn : Int)).toNat = un - fn := by omega
                            rw [e5, Int.toNat_natCast]
                            constructor
                            · intro h k hk
                              have := h k hk
                              rw [seg_ky hk] at this
                              exact this
                            · intro h k hk
                              rw [seg_ky hk]
                              exact h k hk
                          by_cases hxe : x ≤ (e : Int)
                          · have e6 : decide (x > (e : Int)) = false := decide_eq_false (by omega)
                            have HSV2 : Hid (segsV (e : Int) K S = segsV (e : Int) K (S.drop (i + 1))) := by
                              exact HOFFY.out (HX.out.1 hxe)
                            have HFI2 : Hid (∀ k (hk : k < S.length), k < i + 1 → S[k].first = ky K S[k].frm.toNat) := by
                              intro k hk hki
                              rcases Nat.lt_or_ge k i with h | h
                              · exact hfi.out k hk h
                              · obtain rfl : k = i := by omega
                                rw [HSI.out]
                                show sf = ky K (fn : Int).toNat
                                rw [Int.toNat_natCast, HKF.out]
                            clear hx
                            go_wp2_with fail
                            exact ⟨⟨i + 1, rfl, by omega, HSV2.out, HFI2.out, HKR7.out.fr hfb.out, HF7.out.trans hfb.out⟩, by simp only [intOf]; omega⟩
                          · have e6 : decide (x > (e : Int)) = true := decide_eq_true (by omega)
                            have hV85 : Hid (V = 85) := by
                              have h1 := HOFFN.out (fun h => hxe (HX.out.2 h))
                              rw [Hid, HV4.out, h1, if_pos (by decide)]
                            clear hx
                            go_wp2_with fail
                            go_ret
                            exact ⟨by rw [hV85.out]; rfl, HF7.out.trans hfb.out⟩
                        · have e4 : (sf != kf) = true := by simpa using hk0
                          have hV83 : Hid (V = 83) := by
                            have h1 : segsV (e : Int) K S = 83 := by
                              rw [HSV.out]; unfold segsV
                              rw [if_neg (fun h => h HC.out), if_pos (fun h => hk0 (by rw [← HKF.out]; have h2 : sf = ky K (fn : Int).toNat := h; rw [Int.toNat_natCast] at h2; exact h2))]
                            rw [Hid, HV4.out, h1, if_pos (by decide)]
                          go_wp2_with fail
                          go_ret
                          exact ⟨by rw [hV83.out]; rfl, HF7.out⟩
                      · have e3 : (C != 0) = true := by simpa using hc0
                        have hVC : Hid (V = C) := by
                          have h1 : segsV (e : Int) K S = C := by rw [HSV.out]; unfold segsV; rw [HC.out, if_pos hc0]
                          rw [Hid, HV4.out, h1, if_pos hc0]
                        go_wp2_with fail
                        go_ret
                        exact ⟨by rw [hVC.out]; rfl, HF6.out⟩
                    · obtain rfl : i = M := by omega
                      have g2 : decide (i < i) = false := by simp
                      have hsv0 : segsV (e : Int) K S = 0 := by
                        rw [hsv.out, List.drop_of_length_le (by rw [HM.out]; exact Nat.le_refl _)]; rfl
                      have HV5 : Hid (V = levelsV (e : Int) (Ss.length == 0) (firstsOf S) (Ss.drop (j + 1))) := by
                        rw [Hid, HV4.out, hsv0, if_neg (by decide)]
                      have htf := tiles_first hKr.out hKk.out HT.out (Int.le_refl 0) (by rw [hnb.out]) (fun k hk => hfi.out k hk (by have := HM.out; omega))
                      have HTF := Lib.hid htf
                      have FI := Lib.hid (r8firsts_calls S As i cs HM.out.symm hMb wr.heap.size wr (Nat.le_refl _) (Nat.le_refl _) (HRS.out.fr hf5.out))
                      clear htf hsv0 hsv hfi
                      go_wp2_with fail
                      refine FI.out.mono ?_
                      rintro r w6 ⟨A6, c6, rfl, ho6, hf6⟩
                      have HO6 := Lib.hid ho6
                      have HF6 := Lib.hid hf6
                      clear ho6 hf6
                      go_wp2_with fail
                      exact ⟨⟨j + 1, firstsOf S, A6, i, c6, rfl, rfl, by omega, by rw [Hid, firsts_len]; exact HM.out.symm, own_le HO6.out, hMb, HTF.out.1, HTF.out.2.1, fun _ => hM0, fun _ => by rw [HGD.out]; exact HM.out.symm, HO6.out.rd, HV5.out, hf5.out.trans HF6.out⟩, by simp only [intOf]; omega⟩
                | false =>
                  have hV82 : Hid (V = 82) := by rw [Hid, HVJ.out, ← hnb.out, if_pos hT]
                  have e5 : (decide (0 < M) && false) = false := Bool.and_false _
                  rw [e5]
                  clear HVJ hT hTpos e5
                  go_wp2_with fail
                  go_ret
                  exact ⟨by rw [hV82.out]; rfl, HF4.out⟩
              · obtain rfl : j = N := by omega
                have g1 : decide (j < j) = false := by simp
                have hVe : V = if (Ss.length == 0) = true ∨ K.length = 1 then 0 else 84 := by
                  have := hVj.out
                  rw [List.drop_of_length_le (by rw [← HNV.out]; exact Nat.le_refl _)] at this
                  exact this
                have HVE := Lib.hid hVe
                clear hVe hVj
                rcases Nat.eq_zero_or_pos j with hj0 | hj0
                · have hV0 : Hid (V = 0) := by
                    rw [Hid, HVE.out, if_pos (.inl (by rw [hz0.out, hj0]; rfl))]
                  have g3 : decide ((j : Int) > 0) = false := decide_eq_false (by omega)
                  have g3' : decide (0 < j) = false := decide_eq_false (by omega)
                  clear hj0
                  go_wp2_with fail
                  go_ret
                  exact ⟨by rw [hV0.out]; rfl, hfj.out⟩
                · have g3 : decide ((j : Int) > 0) = true := decide_eq_true (by omega)
                  have g3' : decide (0 < j) = true := decide_eq_true hj0
                  obtain ⟨i, rfl⟩ : ∃ i, j = i + 1 := ⟨j - 1, by omega⟩
                  have hiS : i < Ss.length := by have := HNV.out; omega
                  obtain ⟨S, hS⟩ : ∃ S, Ss[i] = S := ⟨_, rfl⟩
                  have hSj : Ss[i]? = some S := by rw [List.getElem?_eq_getElem hiS, hS]
                  obtain ⟨As, cs, hvs, hcs, hrs⟩ := HROWS.out.at hSj
                  obtain ⟨bv, ov, hAv, hcv⟩ := HRV.out.at (by have := HROWS.out.len; have := HNV.out; omega)
                  subst hAv
                  have x0 : wo.cell? ⟨bv, ov + i, none⟩ = some (.slice As S.length cs) := hfj.out.cell (hcv i _ hvs)
                  have hnS : nb = S.length := by
                    have h9 := hKl.out (by omega)
                    rw [Nat.add_sub_cancel, List.getD_eq_getElem?_getD, hSj] at h9
                    exact h9
                  rw [← hnS] at x0
                  have wi1 : IntKind.i64.wrap ((i : Int) + 1 - 1) = (i : Int) := by rw [wrap_i64_in _ (by omega) (by omega)]; omega
                  have wi2 : IntKind.i64.wrap (i : Int) = (i : Int) := wrap_i64_in _ (by omega) (by omega)
                  have gi : (i : Int) < (i : Int) + 1 := by omega
                  have HZ := Lib.hid (And.intro hz0.out hnb.out)
                  clear hcv hvs hSj hS hrs hcs hnS
                  by_cases c3 : nb = 1
                  · have hV0 : Hid (V = 0) := by
                      rw [Hid, HVE.out, if_pos (.inr (by rw [← HZ.out.2]; exact c3))]
                    have e6 : ((nb : Int) != 1) = false := by rw [c3]; rfl
                    clear c3
                    go_wp2_with fail
                    go_ret
                    exact ⟨by rw [hV0.out]; rfl, hfj.out⟩
                  · have hV84 : Hid (V = 84) := by
                      rw [Hid, HVE.out, if_neg]
                      intro h
                      rcases h with h | h
                      · rw [HZ.out.1] at h
                        simp at h
                      · exact c3 (by rw [HZ.out.2]; exact h)
                    have e6 : ((nb : Int) != 1) = true := by
                      have : ¬ (nb : Int) = 1 := by omega
                      simpa using this
                    clear c3
                    go_wp2_with fail
                    go_ret
                    exact ⟨by rw [hV84.out]; rfl, hfj.out⟩
          · obtain ⟨bz, a1⟩ : ∃ bz, ((N : Int) == 0) = bz := ⟨_, rfl⟩
            have a2 : ((n : Int) == 0) = !bz := by
              rw [← a1]
              by_cases hz : N = 0
              · have h3 : ¬ n = 0 := fun h => c2 ⟨fun _ => h, fun _ => hz⟩
                have a1 : ((N : Int) == 0) = true := by rw [hz]; rfl
                have a2 : ((n : Int) == 0) = false := by rw [beq_eq_false_iff_ne]; omega
                rw [a1, a2]; rfl
              · have h3 : n = 0 := Decidable.by_contra (fun h => c2 ⟨fun h2 => absurd h2 hz, fun h2 => absurd h2 h⟩)
                have a1 : ((N : Int) == 0) = false := by rw [beq_eq_false_iff_ne]; omega
                have a2 : ((n : Int) == 0) = true := by rw [h3]; rfl
                rw [a1, a2]; rfl
            have e2 : (bz != !bz) = true := by cases bz <;> rfl
            have hV81 : Hid (V = 81) := by
              rw [Hid, HCV.out, if_pos (fun h => c2 (by rw [HNV.out, HN.out]; exact h.2))]
            clear HCV c2
            go_wp2_with fail
            go_ret
            exact ⟨by rw [hV81.out]; rfl, HF2.out⟩
        · have e1 : decide (H < N) = true := decide_eq_true (by omega)
          have e1i : decide ((N : Int) > (H : Int)) = true := decide_eq_true (by omega)
          have hV81 : Hid (V = 81) := by
            rw [Hid, HCV.out, if_pos (fun h => c1 (by rw [HNV.out]; exact h.1))]
          clear HCV c1
          go_wp2_with fail
          go_ret
          exact ⟨by rw [hV81.out]; rfl, HF2.out⟩
      · have dR : decide (Rise L) = false := decide_eq_false hR
        have hV80 : Hid (V = 80) := by rw [Hid, HCV.out, if_pos hR]
        clear hV hR
        go_enter Tryz.func67, Tryz.ntmps67
        go_wp2_with fail
        refine (RIS.out w (Fr.refl w)).mono ?_
        rintro r w3 ⟨rfl, hf3⟩
        rw [dR]
        go_wp2_with fail
        go_ret
        exact ⟨by rw [hV80.out]; rfl, hf3⟩
    · have d2 : decide (eps > 64) = true := decide_eq_true (by omega)
      have hp : Hid (checkV eps L Ss = 1) := by rw [Hid]; unfold checkV; rw [if_pos (fun h => by omega)]
      go_enter Tryz.func67, Tryz.ntmps67
      go_wp2_with fail
      go_ret
      exact ⟨by rw [hp.out]; rfl, Fr.refl _⟩
  · have d1 : decide (eps < 2) = true := decide_eq_true (by omega)
    have hp : Hid (checkV eps L Ss = 1) := by rw [Hid]; unfold checkV; rw [if_pos (fun h => by omega)]
    go_enter Tryz.func67, Tryz.ntmps67
    go_wp2_with fail
    go_ret
    exact ⟨by rw [hp.out]; rfl, Fr.refl _⟩
end Go.Proofs.YthjimnmgbcckjaaGreat
namespace Go.Proofs.YthjimnmgbcckjaaGreat
set_option maxRecDepth 100000
open Go.RowKit Go.Inc Go.Run
attribute [local go_sem] run_store_float

/-- The reference's run in memory. -/
def IsRef (w : World) (x base : Nat) (eps : Int) (E : List Ent) (Ss : List (List Seg)) : Prop :=
  ∃ (Ae : Option Addr) (ce : Nat) (Al : Option Addr) (cl : Nat) (vs : List Value), base ≤ x ∧ w.heap[x]? = some (.cells #[.slice Ae E.length ce, .int .i64 eps, .slice Al Ss.length cl] 78 (0, 0)) ∧
    Own w base 52 3 Ae E.length ce (E.flatMap encells) ∧ Own w base 62 1 Al Ss.length cl vs ∧ RowsO w base vs Ss
theorem IsRef.fr {w w' : World} {x base : Nat} {eps : Int} {E : List Ent} {Ss : List (List Seg)} (h : IsRef w x base eps E Ss) (hf : Fr w w') : IsRef w' x base eps E Ss := by
  obtain ⟨Ae, ce, Al, cl, vs, h1, h2, h4, h5, h6⟩ := h
  exact ⟨Ae, ce, Al, cl, vs, h1, hf.blk h2, h4.fr hf, h5.fr hf, h6.fr hf⟩
/-- What comes of the reference's Of. -/
def RefOut (E : List Ent) (eps : Int) (Ss : List (List Seg)) (base : Nat) (w : World) (e : Ending) (w' : World) : Prop :=
  Fr w w' ∧ ((¬ (2 ≤ eps ∧ eps ≤ 64) ∧ e = .returned (.tuple #[.pointer none, .int .i64 1])) ∨ ((2 ≤ eps ∧ eps ≤ 64) ∧ ∃ v, v ≠ 0 ∧ Chk3 E v ∧ e = .returned (.tuple #[.pointer none, .int .i64 v])) ∨
    ((2 ≤ eps ∧ eps ≤ 64) ∧ Chk3 E 0 ∧ checkV eps (keysE E) Ss ≠ 0 ∧ e = .returned (.tuple #[.pointer none, .int .i64 (checkV eps (keysE E) Ss)])) ∨
    ((2 ≤ eps ∧ eps ≤ 64) ∧ Chk3 E 0 ∧ checkV eps (keysE E) Ss = 0 ∧ ∃ x, e = .returned (.tuple #[.pointer (some ⟨x, 0, none⟩), .int .i64 0]) ∧ IsRef w' x base eps E Ss))

set_option maxHeartbeats 4000000 in
theorem r11of_calls (E : List Ent) (A : Option Addr) (n c : Nat) (eps : Int) (Av : Option Addr) (N cv : Nat) (vs : List Value) (Ss : List (List Seg)) (hn : n = E.length) (hl : n ≤ 268435456) (hE : ∀ e ∈ E, EntOk e) (hN : N = Ss.length) (hNl : N ≤ 268435456)
    (hS : ∀ S ∈ Ss, S.length ≤ 268435456 ∧ ∀ s ∈ S, SegFit s) (w : World) (hr : RdC w A (E.flatMap encells)) (hrv : RdC w Av vs) (hrows : RowsR w vs Ss) :
    Calls Tryz.prog 28 #[.slice A n c, .int .i64 eps, .slice Av N cv] w (RefOut E eps Ss w.heap.size w) := by
  by_cases h1 : 2 ≤ eps ∧ eps ≤ 64
  · have d1 : decide (eps < 2) = false := decide_eq_false (by omega)
    have d2 : decide (eps > 64) = false := decide_eq_false (by omega)
    have HEP := Lib.hid h1
    have CK := Lib.hid (r3check_calls E A n c hn hl w hr)
    have HR := Lib.hid hr
    have HN := Lib.hid hn
    have HE := Lib.hid hE
    have HNV := Lib.hid hN
    have HS := Lib.hid hS
    have HRV := Lib.hid hrv
    have HROWS := Lib.hid hrows
    obtain ⟨V, hV⟩ : ∃ V, checkV eps (keysE E) Ss = V := ⟨_, rfl⟩
    have HVV := Lib.hid hV
    clear h1 hr hn hE hN hS hrv hrows hV
    go_enter Tryz.func28, Tryz.ntmps28
    go_wp2_with fail
    refine CK.out.mono ?_
    rintro e w1 ⟨v, rfl, hv, hf1⟩
    have HF1 := Lib.hid hf1
    have HVC := Lib.hid hv
    clear hv hf1
    by_cases hv0 : v = 0
    · subst hv0
      have KO := Lib.hid (r3of_calls E A n c HN.out hl w1.heap.size w1 (Nat.le_refl _) (Nat.le_refl _) (HR.out.fr HF1.out))
      go_wp2_with fail
      refine KO.out.mono ?_
      rintro e w2 ⟨A2, c2, rfl, ho2, hf2⟩
      have HF2 : Hid (Fr w w2) := HF1.out.trans hf2
      have HO2 := Lib.hid ho2
      clear ho2 hf2
      have CC := Lib.hid (r8check_calls (keysE E) A2 n c2 eps Av N cv vs Ss (by rw [keysE_len]; exact HN.out) (own_le HO2.out) (by rw [keysE_len]; have := HN.out; omega) (keysE_ok HE.out) HNV.out hNl HS.out w2 HO2.out.rd (HRV.out.fr HF2.out) (HROWS.out.fr HF2.out))
      rw [HVV.out] at CC
      go_wp2_with fail
      refine CC.out.mono ?_
      rintro e w3 ⟨rfl, hf3⟩
      have HF3 : Hid (Fr w w3) := HF2.out.trans hf3
      clear hf3
      by_cases hV0 : V = 0
      · subst hV0
        go_wp2_with fail
        go_loopw [9, 10] (fun v9 v10 wr => ∃ (i : Nat) (Al : Option Addr) (cl : Nat) (us : List Value), v9 = .slice Al i cl ∧ v10 = .int .i64 i ∧ i ≤ N ∧ Hid (Own wr w.heap.size 62 1 Al i cl us) ∧ Hid (RowsO wr w.heap.size us (Ss.take i)) ∧ Hid (Fr w wr)) (fun _ v10 _ => N - (intOf v10).toNat)
        case atStart => exact ⟨0, some ⟨w3.heap.size, 0, none⟩, 0, [], rfl, rfl, by omega, Own.of_blk (Blk.new w3 [] _) HF3.out.size rfl (by omega), trivial, HF3.out.alloc _⟩
        case round =>
          obtain ⟨i, Al, cl, us, rfl, rfl, hin, hol, hrs, hf⟩ := hrel
          rcases Nat.lt_or_ge i N with hlt | hge
          · have g1 : decide (i < N) = true := decide_eq_true hlt
            have g0 : (i : Int) < (N : Int) := by omega
            have hiS : i < Ss.length := by have := HNV.out; omega
            obtain ⟨S, hS⟩ : ∃ S, Ss[i] = S := ⟨_, rfl⟩
            have hSi : Ss[i]? = some S := by rw [List.getElem?_eq_getElem hiS, hS]
            obtain ⟨As, cs, hvs, hcs, hrs0⟩ := HROWS.out.at hSi
            obtain ⟨bv, ov, hAv, hcv⟩ := HRV.out.at (by have := HROWS.out.len; omega)
            subst hAv
            have hSm := (HS.out S (by rw [← hS]; exact List.getElem_mem hiS)).1
            have hx0 := hcv i _ hvs
            obtain ⟨M, hM⟩ : ∃ M, S.length = M := ⟨_, rfl⟩
            rw [hM] at hx0 hcs hSm
            have x0 : (wr.alloc (.cells #[] 65)).cell? ⟨bv, ov + i, none⟩ = some (.slice As M cs) := (hf.out.alloc _).cell hx0
            have HM := Lib.hid hM
            have HRS0 := Lib.hid hrs0
            have HSI := Lib.hid hSi
            have wi : IntKind.i64.wrap ((i : Int) + 1) = (i : Int) + 1 := wrap_i64_in _ (by omega) (by omega)
            have HBWR : Hid (w.heap.size ≤ wr.heap.size) := hf.out.size
            clear hcv hvs hS hSi hrs0 hM hx0
            go_wp2_with (at_builtin; refine gate ?_)
            refine gate_app rfl _ _ 62 rfl 65 (.agg #[.int .u64 0, .float .f64 0, .float .f64 0, .int .i64 0, .int .i64 0]) 5 40 Tryz.underlying62 info_seg rfl (by omega) (by omega) w.heap.size (some ⟨wr.heap.size, 0, none⟩) 0 0 [] As M cs (S.flatMap sgcells) (by rfl) (by rfl)
              (Own.of_blk (Blk.new wr [] _) HBWR.out rfl (by omega)) (by rw [flat_len sgcells 5 sgcells_len, HM.out]) (HRS0.out.fr (hf.out.alloc _)) (seg_one S) (by omega) (by have := HBWR.out; simp; omega) ?_
            intro A6 c6 w6 hown6 hgr6 hat6
            have hm6 : Hid (Mv (fun k => k = wr.heap.size) wr w6) := ((Mv.of_fr ((Fr.refl wr).alloc _)).grown hgr6.out (fun j hj => .inl (by simp [ablk] at hj; exact hj.symm)))
            have hol6 : Hid (Own w6 w.heap.size 62 1 Al i cl us) := hol.out.mv hm6.out (fun k hk h => by have := (hol.out.lt k hk).2; omega)
            have hrs6 : Hid (RowsO w6 w.heap.size us (Ss.take i)) := hrs.out.mv hm6.out (fun k h _ cs fr he => by have h9 := blk_lt he; rw [show k = wr.heap.size from h] at h9; omega)
            have how6 : Hid (Own w6 w.heap.size 65 5 A6 M c6 (S.flatMap sgcells)) := by
              have h9 := hown6.out
              rw [Nat.zero_add, List.nil_append] at h9; exact h9
            have hf6 : Hid (Fr w w6) := hf.out.mv hm6.out (fun k hk => by rw [show k = wr.heap.size from hk]; exact HBWR.out)
            rw [Nat.zero_add]
            clear hown6 hgr6 hat6 x0
            go_wp2_with (at_builtin; refine gate ?_)
            refine gate_app rfl _ _ 39 rfl 62 (.slice none 0 0) 1 24 Tryz.underlying39 info_row rfl (by omega) (by omega) w.heap.size Al i cl us (some ⟨w6.heap.size, 0, none⟩) 1 1 [.slice A6 M c6] (by rfl) (by rfl)
              (hol6.out.fr ((Fr.refl w6).alloc _)) rfl (RdC.of_blk (heap_alloc_new w6 _)) (by intro u hu; simp at hu; subst hu; rfl) (by omega) (by have := hf6.out.size; simp; omega) ?_
            intro A8 c8 w8 hown8 hgr8 hat8
            have hm8 : Hid (Mv (fun k => ablk Al = some k) w6 w8) := ((Mv.of_fr ((Fr.refl w6).alloc _)).grown hgr8.out (fun j hj => .inl hj))
            clear hgr8 hat8
            go_wp2_with fail
            have hrs8 := hrs6.out.mv hm8.out (fun k h _ cs fr he => own_not_blk0 hol6.out (by decide) k h he)
            have how8 := how6.out.mv hm8.out (fun k hk h => by
              obtain ⟨cs, h9⟩ := own_ty how6.out hk
              exact own_not_blk0 hol6.out (by decide) k h h9)
            refine ⟨⟨i + 1, A8, c8, us ++ [.slice A6 M c6], rfl, rfl, by omega, hown8, ?_, ?_⟩, by simp only [intOf]; omega⟩
            · have e9 : Ss.take (i + 1) = Ss.take i ++ [S] := by rw [List.take_add_one, HSI.out]; rfl
              have h9 := hrs8.snoc (S := S) (by rw [HM.out]; exact how8)
              rw [HM.out] at h9
              rw [Hid, e9]; exact h9
            · exact hf6.out.mv hm8.out (fun k hk => (hol6.out.lt k hk).1)
          · obtain rfl : i = N := by omega
            have g1 : decide (i < i) = false := by simp
            have ht : Hid (Ss.take i = Ss) := List.take_of_length_le (by have := HNV.out; omega)
            have HBWR : Hid (w.heap.size ≤ wr.heap.size) := hf.out.size
            go_wp2_with (at_builtin; refine gate ?_)
            refine gate_app rfl _ _ 22 rfl 52 (.agg #[.int .u64 0, .int .u64 0, .bool false]) 3 24 Tryz.underlying22 info_ent rfl (by omega) (by omega) w.heap.size (some ⟨wr.heap.size, 0, none⟩) 0 0 [] A n c (E.flatMap encells) (by rfl) (by rfl)
              (Own.of_blk (Blk.new wr [] _) HBWR.out rfl (by omega)) (by rw [flat_len encells 3 encells_len, HN.out]) (HR.out.fr (hf.out.alloc _)) (ent_one E) (by omega) (by have := HBWR.out; simp; omega) ?_
            intro A6 c6 w6 hown6 hgr6 hat6
            have hm6 : Hid (Mv (fun k => k = wr.heap.size) wr w6) := ((Mv.of_fr ((Fr.refl wr).alloc _)).grown hgr6.out (fun j hj => .inl (by simp [ablk] at hj; exact hj.symm)))
            have hol6 : Hid (Own w6 w.heap.size 62 1 Al i cl us) := hol.out.mv hm6.out (fun k hk h => by have := (hol.out.lt k hk).2; omega)
            have hrs6 : Hid (RowsO w6 w.heap.size us (Ss.take i)) := hrs.out.mv hm6.out (fun k h _ cs fr he => by have h9 := blk_lt he; rw [show k = wr.heap.size from h] at h9; omega)
            have how6 : Hid (Own w6 w.heap.size 52 3 A6 n c6 (E.flatMap encells)) := by
              have h9 := hown6.out
              rw [Nat.zero_add, List.nil_append] at h9; exact h9
            have hf6 : Hid (Fr w w6) := hf.out.mv hm6.out (fun k hk => by rw [show k = wr.heap.size from hk]; exact HBWR.out)
            rw [Nat.zero_add]
            clear hown6 hgr6 hat6
            go_wp2_with fail
            go_ret2
            have hfa := (Fr.refl w6).alloc (.cells #[.slice A6 n c6, .int .i64 eps, .slice Al i cl] 78)
            refine ⟨hf6.out.trans hfa, .inr (.inr (.inr ⟨HEP.out, HVC.out, HVV.out, w6.heap.size, rfl, A6, c6, Al, cl, us, hf6.out.size, ?_, ?_, ?_, ?_⟩))⟩
            · rw [← HN.out, ← HNV.out]; exact heap_alloc_new w6 _
            · rw [← HN.out]; exact how6.out.fr hfa
            · rw [← HNV.out]; exact hol6.out.fr hfa
            · have h9 := hrs6.out.fr hfa; rw [ht.out] at h9; exact h9
      · have g1 : (V != 0) = true := by simpa using hV0
        go_wp2_with fail
        go_ret2
        exact ⟨HF3.out, .inr (.inr (.inl ⟨HEP.out, HVC.out, by rw [HVV.out]; exact hV0, by rw [HVV.out]; rfl⟩))⟩
    · have g1 : (v != 0) = true := by simpa using hv0
      go_wp2_with fail
      go_ret2
      exact ⟨HF1.out, .inr (.inl ⟨HEP.out, v, hv0, HVC.out, rfl⟩)⟩
  · by_cases h2 : eps < 2
    · have d1 : decide (eps < 2) = true := decide_eq_true h2
      have H1 := Lib.hid h1
      clear h1
      go_enter Tryz.func28, Tryz.ntmps28
      go_wp2_with fail
      go_ret2
      exact ⟨Fr.refl _, .inl ⟨H1.out, rfl⟩⟩
    · have d1 : decide (eps < 2) = false := decide_eq_false h2
      have d2 : decide (eps > 64) = true := decide_eq_true (by omega)
      have H1 := Lib.hid h1
      clear h1
      go_enter Tryz.func28, Tryz.ntmps28
      go_wp2_with fail
      go_ret2
      exact ⟨Fr.refl _, .inl ⟨H1.out, rfl⟩⟩
end Go.Proofs.YthjimnmgbcckjaaGreat
namespace Go.Proofs.YthjimnmgbcckjaaGreat
set_option maxRecDepth 100000
open Go.RowKit Go.Inc Go.Run

theorem rof_arg (A : Option Addr) (n c : Nat) (eps : Int) (Av : Option Addr) (N cv : Nat) (h : eps < 2 ∨ 64 < eps) (w : World) : Calls Tryz.prog 27 #[.slice A n c, .int .i64 eps, .slice Av N cv] w fun e w' => e = .returned (.tuple #[.pointer none, .int .i64 1]) ∧ w' = w := by
  by_cases h1 : eps < 2
  · have d1 : decide (eps < 2) = true := decide_eq_true h1
    clear h
    go_enter Tryz.func27, Tryz.ntmps27
    go_wp2_with fail
    go_ret2
    exact ⟨rfl, rfl⟩
  · have d1 : decide (eps < 2) = false := decide_eq_false h1
    have d2 : decide (eps > 64) = true := decide_eq_true (by omega)
    clear h h1
    go_enter Tryz.func27, Tryz.ntmps27
    go_wp2_with fail
    go_ret2
    exact ⟨rfl, rfl⟩
/-- Why there is no run. -/
def OfNo (E : List Ent) (eps : Int) (Ss : List (List Seg)) (v : Int) : Prop := v ≠ 0 ∧ (¬ (2 ≤ eps ∧ eps ≤ 64) ∧ v = 1 ∨ (2 ≤ eps ∧ eps ≤ 64) ∧ EntsV E v ∨ (2 ≤ eps ∧ eps ≤ 64) ∧ EntsV E 0 ∧ v = checkV eps (keysE E) Ss)
/-- A run that stands, with levels that are taken. -/
structure Taken (w : World) (r p : Nat) (eps : Int) (E : List Ent) (Ss : List (List Seg)) : Prop where
  run : RunR w r p eps E Ss
  ok : RunOk eps (keysE E) Ss
  ents : EntsV E 0
theorem Taken.fr {w w' : World} {r p : Nat} {eps : Int} {E : List Ent} {Ss : List (List Seg)} (h : Taken w r p eps E Ss) (hf : Fr w w') : Taken w' r p eps E Ss := ⟨h.run.fr hf, h.ok, h.ents⟩
def OfOut (E : List Ent) (eps : Int) (Ss : List (List Seg)) (w : World) (e : Ending) (w' : World) : Prop :=
  Fr w w' ∧ ((∃ v, OfNo E eps Ss v ∧ e = .returned (.tuple #[.pointer none, .int .i64 v])) ∨ ((2 ≤ eps ∧ eps ≤ 64) ∧ ∃ r p, e = .returned (.tuple #[.pointer (some ⟨r, 0, none⟩), .int .i64 0]) ∧ w.heap.size ≤ r ∧ Taken w' r p eps E Ss))
theorem rof_any (E : List Ent) (A : Option Addr) (n c : Nat) (eps : Int) (Av : Option Addr) (N cv : Nat) (vs : List Value) (Ss : List (List Seg)) (hn : n = E.length) (hc : n ≤ c) (hl : n ≤ 268435456) (hE : ∀ e ∈ E, EntOk e) (hN : N = Ss.length) (hNl : N ≤ 268435456)
    (hS : ∀ S ∈ Ss, S.length ≤ 268435456 ∧ ∀ s ∈ S, SegFit s) (w : World) (hr : RdC w A (E.flatMap encells)) (hrv : RdC w Av vs) (hrows : RowsR w vs Ss) :
    Calls Tryz.prog 27 #[.slice A n c, .int .i64 eps, .slice Av N cv] w (OfOut E eps Ss w) := by
  by_cases he : 2 ≤ eps ∧ eps ≤ 64
  · refine (rof_calls E A n c eps Av N cv vs Ss hn hc hl hE hN hNl hS he w hr hrv hrows).mono fun e w' ⟨hf, hor⟩ => ⟨hf, ?_⟩
    rcases hor with ⟨v, h1, h2, h3⟩ | ⟨h1, h2, h3⟩ | ⟨h1, h2, r, h3, h4⟩
    · exact .inl ⟨v, ⟨h1, .inr (.inl ⟨he, h2⟩)⟩, h3⟩
    · exact .inl ⟨_, ⟨h2, .inr (.inr ⟨he, h1, rfl⟩)⟩, h3⟩
    · obtain ⟨p, hp⟩ := h4.toR
      have hbase : w.heap.size ≤ r := by obtain ⟨_, _, _, _, _, _, h, _⟩ := h4; exact h
      exact .inr ⟨he, r, p, h3, hbase, hp, ⟨(entsV_zero h1).1, keysE_ok hE, by rw [keysE_len]; omega, fun S hS' => ⟨by have := (hS S hS').1; omega, (hS S hS').2⟩, h2⟩, h1⟩
  · refine (rof_arg A n c eps Av N cv (by omega) w).mono fun e w' ⟨h1, h2⟩ => ?_
    subst h2
    exact ⟨Fr.refl _, .inl ⟨1, ⟨by decide, .inl ⟨he, rfl⟩⟩, h1⟩⟩
/-- Where the program has none, the reference has none, for the same reason. -/
theorem ref_no {E : List Ent} {eps : Int} {Ss : List (List Seg)} {v : Int} {base : Nat} {w w' : World} {e : Ending} (h : OfNo E eps Ss v) (hr : RefOut E eps Ss base w e w') : e = .returned (.tuple #[.pointer none, .int .i64 v]) := by
  obtain ⟨h0, h⟩ := h
  obtain ⟨_, hr⟩ := hr
  rcases hr with ⟨h1, h2⟩ | ⟨h1, v', h2, h3, h4⟩ | ⟨h1, h2, h3, h4⟩ | ⟨h1, h2, h3, _⟩
  · rcases h with ⟨_, rfl⟩ | ⟨h, _⟩ | ⟨h, _⟩
    · exact h2
    · exact absurd h h1
    · exact absurd h h1
  · rcases h with ⟨h, _⟩ | ⟨_, h⟩ | ⟨_, h, _⟩
    · exact absurd h1 h
    · rw [chk3_eq h h3]; exact h4
    · exact absurd (chk3_eq h h3).symm h2
  · rcases h with ⟨h, _⟩ | ⟨_, h⟩ | ⟨_, _, h⟩
    · exact absurd h1 h
    · exact absurd (chk3_eq h h2) h0
    · rw [h]; exact h4
  · rcases h with ⟨h, _⟩ | ⟨_, h⟩ | ⟨_, _, h⟩
    · exact absurd h1 h
    · exact absurd (chk3_eq h h2) h0
    · rw [h3] at h; exact absurd h h0
/-- Where the program has one, the reference has one. -/
theorem ref_yes {E : List Ent} {eps : Int} {Ss : List (List Seg)} {base : Nat} {w w' : World} {e : Ending} (he : 2 ≤ eps ∧ eps ≤ 64) (hE : EntsV E 0) (hc : checkV eps (keysE E) Ss = 0) (hr : RefOut E eps Ss base w e w') : ∃ x, e = .returned (.tuple #[.pointer (some ⟨x, 0, none⟩), .int .i64 0]) ∧ IsRef w' x base eps E Ss := by
  obtain ⟨_, hr⟩ := hr
  rcases hr with ⟨h1, h2⟩ | ⟨h1, v', h2, h3, h4⟩ | ⟨h1, h2, h3, h4⟩ | ⟨h1, h2, h3, h4⟩
  · exact absurd he h1
  · exact absurd (chk3_eq hE h3).symm h2
  · exact absurd hc h3
  · exact h4
end Go.Proofs.YthjimnmgbcckjaaGreat
namespace Go.Proofs.YthjimnmgbcckjaaGreat
open Go.RowKit Go.Inc Go.Run

def sblk : Value → Option Nat
  | .slice A _ _ => ablk A
  | _ => none
/-- Of two slices the first one's block lies ahead. -/
def Dis (u v : Value) : Prop := ∀ k k', sblk u = some k → sblk v = some k' → k < k'
theorem Own.set {w : World} {base : Nat} {e : TypeId} {size : Nat} {A : Option Addr} {n c : Nat} {xs : List Value} (h : Own w base e size A n c xs) (b o : Nat) (v : Value) : ∃ xs', Own (w.setCell ⟨b, o, none⟩ v) base e size A n c xs' := by
  obtain ⟨h1, h2⟩ := h
  rcases h2 with h2 | ⟨g, cap, cur, r1, r2, r3, r4, r5, r6, r7⟩
  · exact ⟨xs, h1, .inl h2⟩
  · by_cases hg : b = g
    · subst hg
      have hcap : n * size ≤ cap * size := Nat.mul_le_mul_right _ r4
      refine ⟨(cur.setIfInBounds o v).toList.take (n * size), ?_, .inr ⟨b, cap, _, r1, r2, blk_set r3 o v, r4, r5, by rw [Array.size_setIfInBounds]; exact r6, rfl⟩⟩
      rw [List.length_take, Array.length_toList, Array.size_setIfInBounds, r6]
      omega
    · exact ⟨xs, h1, .inr ⟨g, cap, cur, r1, r2, blk_set_ne r3 (by simpa using hg) v, r4, r5, r6, r7⟩⟩
theorem own_some {w : World} {base : Nat} {e : TypeId} {size : Nat} {A : Option Addr} {n c : Nat} {xs : List Value} (h : Own w base e size A n c xs) (h0 : 0 < n) : ∃ b, A = some ⟨b, 0, none⟩ := by
  rcases h.2 with ⟨_, h2⟩ | ⟨g, cap, cur, r1, _⟩
  · omega
  · injection r1 with r1
    exact ⟨g, r1⟩
theorem own_cells {w : World} {base : Nat} {e : TypeId} {size b n c : Nat} {xs : List Value} (h : Own w base e size (some ⟨b, 0, none⟩) n c xs) (k : Nat) (hk : k < n * size) : (∃ u, w.cell? ⟨b, k, none⟩ = some u) ∧ w.frozen? ⟨b, k, none⟩ = false := by
  obtain ⟨cs, h2⟩ := own_ty h (k := b) rfl
  refine ⟨?_, blk_frozen h2 k⟩
  have hl := h.len
  refine ⟨xs[k]'(by omega), ?_⟩
  have h3 := h.rd.get k (xs[k]'(by omega)) (List.getElem?_eq_getElem _)
  rwa [Nat.zero_add] at h3
theorem RowsO.mvs {T : Nat → Prop} {w w' : World} {base : Nat} : ∀ {vs : List Value} {Ss : List (List Seg)}, RowsO w base vs Ss → Mv T w w' → (∀ v ∈ vs, ∀ k, sblk v = some k → ¬ T k) → RowsO w' base vs Ss
  | [], [], _, _, _ => trivial
  | v :: vs, S :: Ss, h, hm, hT => by
    obtain ⟨⟨A, c, h1, h2⟩, h4⟩ := h
    exact ⟨⟨A, c, h1, h2.mv hm (fun k hk => hT v (List.mem_cons_self ..) k (by rw [h1]; exact hk))⟩, RowsO.mvs h4 hm (fun v hv => hT v (List.mem_cons_of_mem _ hv))⟩
  | [], _ :: _, h, _, _ => h.elim
  | _ :: _, [], h, _, _ => h.elim
theorem rowsO_lt {w : World} {base : Nat} : ∀ {vs : List Value} {Ss : List (List Seg)}, RowsO w base vs Ss → ∀ v ∈ vs, ∀ k, sblk v = some k → base ≤ k
  | [], [], _, v, hv, _, _ => by simp at hv
  | v :: vs, S :: Ss, h, u, hu, k, hk => by
    obtain ⟨⟨A, c, h1, h2⟩, h4⟩ := h
    rcases List.mem_cons.1 hu with rfl | hu
    · rw [h1] at hk; exact (h2.lt k hk).1
    · exact rowsO_lt h4 u hu k hk
  | [], _ :: _, h, _, _, _, _ => h.elim
  | _ :: _, [], h, _, _, _, _ => h.elim
theorem IsPile.low {T : Nat → Prop} {w w' : World} {p base : Nat} {eps : Int} {K : List Int} {Ss : List (List Seg)} (h : IsPile w p base eps K Ss) (hm : Mv T w w') (hT : ∀ k, T k → k < base) : IsPile w' p base eps K Ss := by
  obtain ⟨Ak, ck, Al, cl, vs, h1, h2, h3, h4, h5⟩ := h
  exact ⟨Ak, ck, Al, cl, vs, h1, hm.blk h2 (fun h => by have := hT _ h; omega), h3.mv hm (fun k hk h => by have := hT _ h; have := (h3.lt k hk).1; omega), h4.mv hm (fun k hk h => by have := hT _ h; have := (h4.lt k hk).1; omega), h5.mvs hm (fun v hv k hk h => by have := hT _ h; have := rowsO_lt h5 v hv k hk; omega)⟩
theorem IsRun.low {T : Nat → Prop} {w w' : World} {r base : Nat} {eps : Int} {E : List Ent} {Ss : List (List Seg)} (h : IsRun w r base eps E Ss) (hm : Mv T w w') (hT : ∀ k, T k → k < base) : IsRun w' r base eps E Ss := by
  obtain ⟨p, Ae, ce, Al, cl, vs, h1, h2, h3, h4, h5, h6⟩ := h
  exact ⟨p, Ae, ce, Al, cl, vs, h1, hm.blk h2 (fun h => by have := hT _ h; omega), h3.low hm hT, h4.mv hm (fun k hk h => by have := hT _ h; have := (h4.lt k hk).1; omega), h5.mv hm (fun k hk h => by have := hT _ h; have := (h5.lt k hk).1; omega), h6.mvs hm (fun v hv k hk h => by have := hT _ h; have := rowsO_lt h6 v hv k hk; omega)⟩
theorem IsRef.low {T : Nat → Prop} {w w' : World} {x base : Nat} {eps : Int} {E : List Ent} {Ss : List (List Seg)} (h : IsRef w x base eps E Ss) (hm : Mv T w w') (hT : ∀ k, T k → k < base) : IsRef w' x base eps E Ss := by
  obtain ⟨Ae, ce, Al, cl, vs, h1, h2, h4, h5, h6⟩ := h
  exact ⟨Ae, ce, Al, cl, vs, h1, hm.blk h2 (fun h => by have := hT _ h; omega), h4.mv hm (fun k hk h => by have := hT _ h; have := (h4.lt k hk).1; omega), h5.mv hm (fun k hk h => by have := hT _ h; have := (h5.lt k hk).1; omega), h6.mvs hm (fun v hv k hk h => by have := hT _ h; have := rowsO_lt h6 v hv k hk; omega)⟩
end Go.Proofs.YthjimnmgbcckjaaGreat
