/- RunBuilds holds: for every input whose bulk is at most 1048576 the law returns true and its arguments read as before. -/
import Derived.Test.YtelpbbkmkighfaaGreatQX
import Derived.Test.YtelpbbkmkighfaaGreatQJ
import Derived.Test.YtelpbbkmkighfaaGreatQK
namespace Go.Proofs.YtelpbbkmkighfaaGreat
set_option maxRecDepth 100000
open Go.RowKit Go.Inc Go.Run
attribute [local go_sem] run_store_float

theorem IsRun.small {w : World} {r base : Nat} {eps : Int} {E : List Ent} {Ss : List (List Seg)} (he : 2 ≤ eps ∧ eps ≤ 64) (hE : ∀ e ∈ E, EntOk e) (hl : E.length ≤ 268435456) (hV : EntsV E 0) (hlv : LevelsOf (eps - 1) (keysE E) Ss) (h : IsRun w r base eps E Ss) : Ss.length ≤ 268435456 ∧ ∀ S ∈ Ss, S.length ≤ 268435456 := by
  obtain ⟨e0, rfl⟩ : ∃ e0 : Nat, eps = e0 := ⟨eps.toNat, by omega⟩
  obtain ⟨p, hb⟩ := built_of (by omega) hE hl hV hlv h
  exact hb.small
theorem ent_app (E : List Ent) (x : Ent) : (E ++ [x]).flatMap encells = E.flatMap encells ++ encells x := by simp

def e77 : Ent := ⟨77, 0, false⟩
def e8 : Ent := ⟨8, 0, false⟩
def s8 : Seg := ⟨0, 0, 0, -8, 0⟩
theorem set_mid {pre rest : List Value} {u v : Value} {j : Nat} (h : pre.length = j) : (pre ++ u :: rest).set j v = pre ++ [v] ++ rest := by
  rw [List.set_append_right _ _ (by omega), h, Nat.sub_self, List.append_assoc]; rfl
set_option maxHeartbeats 16000000 in
theorem runBuilds_calls (E : List Ent) (A : Option Addr) (n c : Nat) (eps : Int) (hn : n = E.length) (_hc : n ≤ c) (hl : n ≤ 268435456) (hE : ∀ e ∈ E, EntOk e) (w : World) (hr : RdC w A (E.flatMap encells)) :
    Calls Tryz.prog 4 #[.slice A n c, .int .i64 eps] w fun e w' => e = .returned (.bool true) ∧ Fr w w' := by
  have HN := Lib.hid hn
  have HR := Lib.hid hr
  have HE := Lib.hid hE
  have RF : Hid (∀ w', Fr w w' → Calls Tryz.prog 9 #[.slice A n c, .int .i64 eps] w' (RefNew E eps w'.heap.size w')) := fun w' h => r11new_calls E A n c eps hn hl hE w' (hr.fr h)
  have hlen : (E.flatMap encells).length = n * 3 := by rw [flat_len encells 3 encells_len, hn]
  have HLN := Lib.hid hlen
  clear hr hn hE hlen
  go_enter Tryz.func4, Tryz.ntmps4
  go_wp2_with fail
  refine (shown11_calls w).mono ?_
  rintro _ w1 ⟨rfl, hf1⟩
  have HF1 := Lib.hid hf1
  clear hf1
  by_cases hbig : n > 300
  · have g1 : decide ((n : Int) > 300) = true := decide_eq_true (by omega)
    have g1' : decide (300 < n) = true := decide_eq_true hbig
    go_wp2_with fail
    go_ret
    exact ⟨rfl, HF1.out⟩
  · have g1 : decide ((n : Int) > 300) = false := decide_eq_false (by omega)
    have g1' : decide (300 < n) = false := decide_eq_false hbig
    go_wp2_with (at_builtin; refine gate ?_)
    refine gate_app rfl _ _ 22 rfl 38 (.agg #[.int .u64 0, .int .u64 0, .bool false]) 3 24 Tryz.underlying22 info_ent rfl (by omega) (by omega) w1.heap.size (some ⟨w1.heap.size, 0, none⟩) 0 0 [] A n c (E.flatMap encells) (by rfl) (by rfl)
      (Own.of_blk (Blk.new w1 [] _) (Nat.le_refl _) rfl (by omega)) HLN.out (HR.out.fr (HF1.out.alloc _)) (ent_one E) (by omega) (by simp) ?_
    intro A2 c2 w2 hown2 hgr2 hat2
    have hm2 : Hid (Mv (fun k => k = w1.heap.size) w1 w2) := ((Mv.of_fr ((Fr.refl w1).alloc _)).grown hgr2.out (fun j hj => .inl (by simp [ablk] at hj; exact hj.symm)))
    have HF2 : Hid (Fr w1 w2) := (Fr.refl w1).mv hm2.out (fun k hk => by rw [show k = w1.heap.size from hk]; exact Nat.le_refl _)
    have HOWN2 : Hid (Own w2 w1.heap.size 38 3 A2 n c2 (E.flatMap encells)) := by
      have h9 := hown2.out
      rw [Nat.zero_add, List.nil_append] at h9; exact h9
    rw [Nat.zero_add]
    clear hown2 hgr2 hat2 hm2
    go_wp2_with (at_builtin; refine gate ?_)
    refine gate_app rfl _ _ 22 rfl 38 (.agg #[.int .u64 0, .int .u64 0, .bool false]) 3 24 Tryz.underlying22 info_ent rfl (by omega) (by omega) w1.heap.size A2 n c2 (E.flatMap encells) (some ⟨w2.heap.size, 0, none⟩) 1 1 ([e77].flatMap encells) (by rfl) (by rfl)
      (HOWN2.out.fr ((Fr.refl w2).alloc _)) rfl (RdC.of_blk (heap_alloc_new w2 _)) (ent_one [e77]) (by omega) (by have := HF2.out.size; simp; omega) ?_
    intro A3 c3 w3 hown3 hgr3 hat3
    have hm3 : Hid (Mv (fun k => ablk A2 = some k) w2 w3) := ((Mv.of_fr ((Fr.refl w2).alloc _)).grown hgr3.out (fun j hj => .inl hj))
    have HF3 : Hid (Fr w1 w3) := HF2.out.mv hm3.out (fun k hk => (HOWN2.out.lt k hk).1)
    have HOWN3 : Hid (Own w3 w1.heap.size 38 3 A3 (n + 1) c3 ((E ++ [e77]).flatMap encells)) := by
      rw [Hid, List.flatMap_append]; exact hown3.out
    have hle3 := own_le hown3.out
    have HFW3 : Hid (Fr w w3) := HF1.out.trans HF3.out
    clear hown3 hgr3 hat3 hm3
    obtain ⟨b3, hb3⟩ := own_some HOWN3.out (by omega)
    subst hb3
    obtain ⟨A4, hA4, hA4b, hA4r⟩ := run_cut_h (P := Tryz.prog) 22 38 3 Tryz.underlying22 (by kernel_rfl) (some ⟨b3, 0, none⟩) (n + 1) c3 n (n : Int) rfl (by omega) .i64
    have HRD4 : Hid (∀ w', RdC w' (some ⟨b3, 0, none⟩) ((E ++ [e77]).flatMap encells) → RdC w' A4 (E.flatMap encells)) := by
      intro w' h
      have h1 := (hA4r w' _ h).take (n * 3)
      rw [ent_app, ← HLN.out, List.take_left'] at h1
      · exact h1
      · rfl
    have NW := Lib.hid (rnewI_any E A4 n c3 eps HN.out (by omega) hl HE.out w3 (HRD4.out w3 HOWN3.out.rd))
    have HB3 : Hid (w1.heap.size ≤ b3 ∧ b3 < w3.heap.size) := HOWN3.out.lt b3 rfl
    clear hA4b hA4r
    go_wp2_with fail
    refine NW.out.mono ?_
    rintro e4 w4 ⟨hf4, hor⟩
    have HF4 : Hid (Fr w3 w4) := hf4
    clear hf4 NW
    rcases hor with ⟨v, hv0, hv, rfl⟩ | ⟨he, hV, r, Ss, rfl, hlv, hrun⟩
    · have HV := Lib.hid (And.intro hv0 hv)
      have HFW4 : Hid (Fr w w4) := HFW3.out.trans HF4.out
      clear hv hv0
      go_wp2_with fail
      refine (RF.out w4 HFW4.out).mono ?_
      rintro e5 w5 hrf
      have he5 := rnew_no HV.out.1 HV.out.2 hrf
      have HF5 : Hid (Fr w3 w5) := HF4.out.trans hrf.1
      subst he5
      have e1 : (v != v) = false := by simp
      have SL := Lib.hid (samelist_calls E A4 n c3 A c HN.out hl w5 (HRD4.out w5 (HOWN3.out.rd.fr HF5.out)) (HR.out.fr (HFW3.out.trans HF5.out)))
      clear hrf
      go_wp2_with fail
      refine SL.out.mono ?_
      rintro _ w6 ⟨rfl, hf6⟩
      have HF6 : Hid (Fr w3 w6) := HF5.out.trans hf6
      have x77 := (HOWN3.out.rd.fr HF6.out).get (n * 3) (.int .u64 77) (by rw [ent_app, List.getElem?_append_right (by rw [HLN.out]; exact Nat.le_refl _), HLN.out, Nat.sub_self]; rfl)
      rw [Nat.zero_add] at x77
      have gn : (n : Int) < (n : Int) + 1 := by omega
      clear hf6
      go_wp2_with fail
      go_ret
      exact ⟨rfl, HFW3.out.trans HF6.out⟩
    · have HEE := Lib.hid he
      have HVE := Lib.hid hV
      have HLV := Lib.hid hlv
      have HRUN := Lib.hid hrun
      have HSM := Lib.hid (IsRun.small he HE.out (by have := HN.out; omega) hV hlv hrun)
      have HFW4 : Hid (Fr w w4) := HFW3.out.trans HF4.out
      clear he hV hlv hrun
      go_wp2_with fail
      refine (RF.out w4 HFW4.out).mono ?_
      rintro e5 w5 hrf
      obtain ⟨x, he5, hx⟩ := rnew_yes HEE.out HVE.out (keysE_ok HE.out) HLV.out hrf
      have HF5 : Hid (Fr w3 w5) := HF4.out.trans hrf.1
      have SL := Lib.hid (samelist_calls E A4 n c3 A c HN.out hl w5 (HRD4.out w5 (HOWN3.out.rd.fr HF5.out)) (HR.out.fr (HFW3.out.trans HF5.out)))
      have HREF := Lib.hid hx
      have HRUN5 : Hid (IsRun w5 r w3.heap.size eps E Ss) := HRUN.out.fr hrf.1
      have HSZ : Hid (w3.heap.size ≤ w4.heap.size) := HF4.out.size
      subst he5
      clear hrf hx HRUN
      go_wp2_with fail
      refine SL.out.mono ?_
      rintro _ w6 ⟨rfl, hf6⟩
      have HF6 : Hid (Fr w3 w6) := HF5.out.trans hf6
      have HREF6 : Hid (IsRef w6 x w4.heap.size eps E Ss) := HREF.out.fr hf6
      have HRUN6 : Hid (IsRun w6 r w3.heap.size eps E Ss) := HRUN5.out.fr hf6
      have x77 := (HOWN3.out.rd.fr HF6.out).get (n * 3) (.int .u64 77) (by rw [ent_app, List.getElem?_append_right (by rw [HLN.out]; exact Nat.le_refl _), HLN.out, Nat.sub_self]; rfl)
      rw [Nat.zero_add] at x77
      have gn : (n : Int) < (n : Int) + 1 := by omega
      clear hf6 SL HREF HRUN5
      go_wp2_with fail
      clear x77 gn
      go_loopw [11] (fun v wr => ∃ i : Nat, v = .int .i64 i ∧ i ≤ n + 1 ∧ Hid (∃ xs, Own wr w1.heap.size 38 3 (some ⟨b3, 0, none⟩) (n + 1) c3 xs) ∧ Hid (Mv (one1 b3) w6 wr)) (fun v _ => n + 1 - (intOf v).toNat)
      case atStart => exact ⟨0, rfl, by omega, ⟨_, HOWN3.out.fr HF6.out⟩, Mv.refl _ _⟩
      case round =>
        obtain ⟨i, rfl, hin, how, hmv⟩ := hrel
        rcases Nat.lt_or_ge i (n + 1) with hlt | hge
        · have d1 : decide (i < n + 1) = true := decide_eq_true hlt
          have d2 : (i : Int) < (n : Int) + 1 := by omega
          obtain ⟨xs, hxs⟩ := how.out
          obtain ⟨⟨u0, y0⟩, z0⟩ := own_cells hxs (i * 3) (by omega)
          obtain ⟨⟨u1, y1⟩, z1⟩ := own_cells hxs (i * 3 + 1) (by omega)
          obtain ⟨⟨u2, y2⟩, z2⟩ := own_cells hxs (i * 3 + 2) (by omega)
          have wi : IntKind.i64.wrap ((i : Int) + 1) = (i : Int) + 1 := wrap_i64_in _ (by omega) (by omega)
          have HXS := Lib.hid hxs
          clear hxs
          go_wp2_with fail
          obtain ⟨xs1, h1⟩ := Own.set HXS.out b3 (i * 3) (.int .u64 5)
          obtain ⟨xs2, h2⟩ := Own.set h1 b3 (i * 3 + 1) (.int .u64 5)
          obtain ⟨xs3, h3⟩ := Own.set h2 b3 (i * 3 + 2) (.bool false)
          exact ⟨⟨i + 1, rfl, by omega, ⟨xs3, h3⟩, ((hmv.out.set (p := ⟨b3, i * 3, none⟩) (.inl rfl) _).set (p := ⟨b3, i * 3 + 1, none⟩) (.inl rfl) _).set (p := ⟨b3, i * 3 + 2, none⟩) (.inl rfl) _⟩, by simp only [intOf]; omega⟩
        · obtain rfl : i = n + 1 := by omega
          have d1 : decide (n + 1 < n + 1) = false := by simp
          have d2 : ¬ (n : Int) + 1 < (n : Int) + 1 := by omega
          obtain ⟨w7, hw7⟩ : ∃ w7, w7 = wr := ⟨_, rfl⟩
          subst hw7
          have HRUN7 : Hid (IsRun w7 r w3.heap.size eps E Ss) := HRUN6.out.low hmv.out (fun k hk => by rw [show k = b3 from hk]; exact HB3.out.2)
          have HREF7 : Hid (IsRef w7 x w4.heap.size eps E Ss) := HREF6.out.low hmv.out (fun k hk => by rw [show k = b3 from hk]; have := HB3.out.2; have := HSZ.out; omega)
          have HFW7 : Hid (Fr w w7) := HF1.out.trans ((HF3.out.trans HF6.out).mv hmv.out (fun k hk => by rw [show k = b3 from hk]; exact HB3.out.1))
          obtain ⟨p, hp⟩ := HRUN7.out.toR
          have HP := Lib.hid hp
          have HX := Lib.hid HREF7.out.toR
          have ALK : Hid (∀ w', Fr w7 w' → Calls Tryz.prog 12 #[.pointer (some ⟨r, 0, none⟩), .pointer (some ⟨x, 0, none⟩)] w' fun e w'' => e = .returned (.bool true) ∧ Fr w' w'') := fun w' h => alike_calls r p x eps E Ss (by have := HN.out; omega) HSM.out.1 HSM.out.2 w' (HP.out.fr h) (HX.out.fr h)
          clear hp how hmv HRUN6 HREF6 hin hge
          go_wp2_with fail
          refine (ALK.out w7 (Fr.refl _)).mono ?_
          rintro _ w8 ⟨rfl, hf8⟩
          have HF8 : Hid (Fr w7 w8) := hf8
          clear hf8
          go_wp2_with fail
          refine (rlist_calls r p eps E Ss (by have := HN.out; omega) w8.heap.size w8 (Nat.le_refl _) (HP.out.fr HF8.out)).mono ?_
          rintro _ w9 ⟨A9, c9, rfl, hown9, hf9⟩
          rw [← HN.out] at hown9 ⊢
          have HOWN9 := Lib.hid hown9
          have HF9 : Hid (Fr w8 w9) := hf9
          clear hown9 hf9
          go_wp2_with fail
          go_loopw [13] (fun v wr => ∃ i : Nat, v = .int .i64 i ∧ i ≤ n ∧ Hid (∃ xs, Own wr w8.heap.size 38 3 A9 n c9 xs) ∧ Hid (Fr w8 wr)) (fun v _ => n - (intOf v).toNat)
          case atStart => exact ⟨0, rfl, by omega, ⟨_, HOWN9.out⟩, HF9.out⟩
          case round =>
            obtain ⟨i, rfl, hin, how, hmv⟩ := hrel
            rcases Nat.lt_or_ge i n with hlt | hge
            · have d1 : decide (i < n) = true := decide_eq_true hlt
              have d2 : (i : Int) < (n : Int) := by omega
              obtain ⟨xs, hxs⟩ := how.out
              obtain ⟨b9, hb9⟩ := own_some hxs (by omega)
              subst hb9
              obtain ⟨⟨u0, y0⟩, z0⟩ := own_cells hxs (i * 3) (by omega)
              obtain ⟨⟨u1, y1⟩, z1⟩ := own_cells hxs (i * 3 + 1) (by omega)
              obtain ⟨⟨u2, y2⟩, z2⟩ := own_cells hxs (i * 3 + 2) (by omega)
              have wi : IntKind.i64.wrap ((i : Int) + 1) = (i : Int) + 1 := wrap_i64_in _ (by omega) (by omega)
              have HXS := Lib.hid hxs
              clear hxs
              go_wp2_with fail
              obtain ⟨xs1, h1⟩ := Own.set HXS.out b9 (i * 3) (.int .u64 6)
              obtain ⟨xs2, h2⟩ := Own.set h1 b9 (i * 3 + 1) (.int .u64 0)
              obtain ⟨xs3, h3⟩ := Own.set h2 b9 (i * 3 + 2) (.bool false)
              have hb9 := (HXS.out.lt b9 rfl).1
              exact ⟨⟨i + 1, rfl, by omega, ⟨xs3, h3⟩, ((hmv.out.set (p := ⟨b9, i * 3, none⟩) hb9 _).set (p := ⟨b9, i * 3 + 1, none⟩) hb9 _).set (p := ⟨b9, i * 3 + 2, none⟩) hb9 _⟩, by simp only [intOf]; omega⟩
            · obtain rfl : i = n := by omega
              have d1 : decide (i < i) = false := by simp
              obtain ⟨xs, hxs⟩ := how.out
              obtain ⟨w10, hw10⟩ : ∃ w10, w10 = wr := ⟨_, rfl⟩
              subst hw10
              have HXS := Lib.hid hxs
              have HF10 : Hid (Fr w8 w10) := hmv.out
              clear hxs how hmv hin hge
              go_wp2_with (at_builtin; refine gate ?_)
              refine gate_app rfl _ _ 22 rfl 38 (.agg #[.int .u64 0, .int .u64 0, .bool false]) 3 24 Tryz.underlying22 info_ent rfl (by omega) (by omega) w8.heap.size A9 i c9 xs (some ⟨w10.heap.size, 0, none⟩) 2 2 ([e8, e8].flatMap encells) (by rfl) (by rfl)
                (HXS.out.fr ((Fr.refl w10).alloc _)) rfl (RdC.of_blk (heap_alloc_new w10 _)) (ent_one [e8, e8]) (by omega) (by have := HF10.out.size; simp; omega) ?_
              intro A11 c11 w11 hown11 hgr11 hat11
              have hm11 : Hid (Mv (fun k => ablk A9 = some k) w10 w11) := ((Mv.of_fr ((Fr.refl w10).alloc _)).grown hgr11.out (fun j hj => .inl hj))
              have HF11 : Hid (Fr w8 w11) := HF10.out.mv hm11.out (fun k hk => (HXS.out.lt k hk).1)
              have HOWN11 := hown11
              have HF7_11 : Hid (Fr w7 w11) := HF8.out.trans HF11.out
              clear hown11 hgr11 hat11 hm11
              go_wp2_with fail
              refine (rlevels2_calls r p eps E Ss HSM.out.1 HSM.out.2 w11.heap.size w11 (Nat.le_refl _) (HP.out.fr HF7_11.out)).mono ?_
              rintro _ w12 ⟨g, us, rfl, hgb, hblk, hul, hrows, hdis, hf12⟩
              obtain ⟨N, hNN⟩ : ∃ N, Ss.length = N := ⟨_, rfl⟩
              rw [hNN] at hul ⊢
              have hNb : N ≤ 268435456 := by have := HSM.out.1; omega
              have HNN := Lib.hid hNN
              have HGB := Lib.hid hgb
              have HBLK := Lib.hid hblk
              have HUL := Lib.hid hul
              have HROWS := Lib.hid hrows
              have HDIS := Lib.hid hdis
              have HF12 := Lib.hid hf12
              clear hgb hblk hul hrows hdis hf12 hNN
              go_wp2_with fail
              go_loopw [16] (fun v wr => ∃ (i : Nat) (pre : List Value), v = .int .i64 i ∧ i ≤ N ∧ Hid (pre.length = i) ∧ Hid (Blk wr g (pre ++ us.drop i) 44) ∧ Hid (RowsO wr w11.heap.size (us.drop i) (Ss.drop i)) ∧ Hid (Fr w11 wr)) (fun v _ => N - (intOf v).toNat)
              case atStart => exact ⟨0, [], rfl, by omega, rfl, HBLK.out, HROWS.out, HF12.out⟩
              case round =>
                obtain ⟨j, pre, rfl, hjn, hpl, hbk, hrs, hf⟩ := hrel
                rcases Nat.lt_or_ge j N with hlt | hge
                · have d1 : decide (j < N) = true := decide_eq_true hlt
                  have d2 : (j : Int) < (N : Int) := by omega
                  have hju : j < us.length := by have := HUL.out; omega
                  have hjS : j < Ss.length := by have := HNN.out; omega
                  obtain ⟨u, hu⟩ : ∃ u, us[j] = u := ⟨_, rfl⟩
                  obtain ⟨S, hS⟩ : ∃ S, Ss[j] = S := ⟨_, rfl⟩
                  have eu : us.drop j = u :: us.drop (j + 1) := by rw [List.drop_eq_getElem_cons hju, hu]
                  have eS : Ss.drop j = S :: Ss.drop (j + 1) := by rw [List.drop_eq_getElem_cons hjS, hS]
                  have hrs' := hrs.out
                  rw [eu, eS] at hrs'
                  obtain ⟨⟨As, cs, hu2, hown⟩, hrest⟩ := hrs'
                  have hpd : ∀ v ∈ us.drop (j + 1), Dis u v := by
                    have h9 := HDIS.out.sublist (List.drop_sublist j us)
                    rw [eu] at h9
                    exact (List.pairwise_cons.1 h9).1
                  have hSM := HSM.out.2 S (by rw [← hS]; exact List.getElem_mem hjS)
                  obtain ⟨M, hM⟩ : ∃ M, S.length = M := ⟨_, rfl⟩
                  rw [hM] at hu2 hown hSM
                  subst hu2
                  have hget : (pre ++ us.drop j)[j]? = some (.slice As M cs) := by
                    rw [List.getElem?_append_right (by rw [hpl.out]; exact Nat.le_refl _), hpl.out, Nat.sub_self, eu]; rfl
                  have hAg : ∀ k, ablk As = some k → k ≠ g := by
                    intro k hk hkg
                    obtain ⟨cs', h9⟩ := own_ty hown hk
                    have h8 := hbk.out
                    unfold Blk at h8
                    rw [← hkg, h9] at h8
                    injection h8 with h8; injection h8 with _ h8 _
                    revert h8; decide
                  have HGET : Hid (∀ w', Mv (fun k => ablk As = some k) wr w' → Blk w' g (pre ++ us.drop j) 44) := fun w' h => hbk.out.mv h (fun hk => hAg g hk rfl)
                  have HG2 : Hid ((pre ++ us.drop j)[j]? = some (.slice As M cs)) := hget
                  have HEU := Lib.hid eu
                  have HOWN := Lib.hid hown
                  have HREST := Lib.hid hrest
                  have HPD := Lib.hid hpd
                  obtain ⟨wo, hwo⟩ : ∃ wo, wo = wr := ⟨_, rfl⟩
                  subst hwo
                  clear eu eS hu hS hrs hrest hpd hAg hown hM hget hju hjS
                  go_wp2_with fail
                  go_loopw [17] (fun v wr => ∃ k : Nat, v = .int .i64 k ∧ k ≤ M ∧ Hid (∃ ys, Own wr w11.heap.size 47 5 As M cs ys) ∧ Hid (Mv (fun k => ablk As = some k) wo wr)) (fun v _ => M - (intOf v).toNat)
                  case atStart => exact ⟨0, rfl, by omega, ⟨_, HOWN.out⟩, Mv.refl _ _⟩
                  case round =>
                    obtain ⟨k, rfl, hkM, how, hmv⟩ := hrel
                    have y9 := (HGET.out wr hmv.out).cell j _ HG2.out
                    have wj : IntKind.i64.wrap ((j : Int) + 1) = (j : Int) + 1 := wrap_i64_in _ (by omega) (by omega)
                    rcases Nat.lt_or_ge k M with hlt | hge
                    · have d3 : decide (k < M) = true := decide_eq_true hlt
                      have d4 : (k : Int) < (M : Int) := by omega
                      obtain ⟨ys, hys⟩ := how.out
                      obtain ⟨b9, hb9⟩ := own_some hys (by omega)
                      subst hb9
                      obtain ⟨⟨u0, y0⟩, z0⟩ := own_cells hys (k * 5) (by omega)
                      obtain ⟨⟨u1, y1⟩, z1⟩ := own_cells hys (k * 5 + 1) (by omega)
                      obtain ⟨⟨u2, y2⟩, z2⟩ := own_cells hys (k * 5 + 2) (by omega)
                      obtain ⟨⟨u3, y3⟩, z3⟩ := own_cells hys (k * 5 + 3) (by omega)
                      obtain ⟨⟨u4, y4⟩, z4⟩ := own_cells hys (k * 5 + 4) (by omega)
                      have wi : IntKind.i64.wrap ((k : Int) + 1) = (k : Int) + 1 := wrap_i64_in _ (by omega) (by omega)
                      have HYS := Lib.hid hys
                      clear hys
                      go_wp2_with fail
                      obtain ⟨x1, h1⟩ := Own.set HYS.out b9 (k * 5) (.int .u64 0)
                      obtain ⟨x2, h2⟩ := Own.set h1 b9 (k * 5 + 1) (.float .f64 0)
                      obtain ⟨x3, h3⟩ := Own.set h2 b9 (k * 5 + 2) (.float .f64 0)
                      obtain ⟨x4, h4⟩ := Own.set h3 b9 (k * 5 + 3) (.int .i64 (-6))
                      obtain ⟨x5, h5⟩ := Own.set h4 b9 (k * 5 + 4) (.int .i64 0)
                      exact ⟨⟨k + 1, rfl, by omega, ⟨x5, h5⟩, ((((hmv.out.set (p := ⟨b9, k * 5, none⟩) (.inl rfl) _).set (p := ⟨b9, k * 5 + 1, none⟩) (.inl rfl) _).set (p := ⟨b9, k * 5 + 2, none⟩) (.inl rfl) _).set (p := ⟨b9, k * 5 + 3, none⟩) (.inl rfl) _).set (p := ⟨b9, k * 5 + 4, none⟩) (.inl rfl) _⟩, by simp only [intOf]; omega⟩
                    · obtain rfl : k = M := by omega
                      have d3 : decide (k < k) = false := by simp
                      obtain ⟨ys, hys⟩ := how.out
                      have HYS := Lib.hid hys
                      have hsz : w11.heap.size ≤ wr.heap.size := by have := hf.out.size; have := hmv.out.size; omega
                      have HSZ2 := Lib.hid hsz
                      clear how hys hge hsz
                      go_wp2_with (at_builtin; refine gate ?_)
                      refine gate_app rfl _ _ 44 rfl 47 (.agg #[.int .u64 0, .float .f64 0, .float .f64 0, .int .i64 0, .int .i64 0]) 5 40 Tryz.underlying44 info_seg rfl (by omega) (by omega) w11.heap.size As k cs ys (some ⟨wr.heap.size, 0, none⟩) 1 1 ([s8].flatMap sgcells) (by rfl) (by rfl)
                        (HYS.out.fr ((Fr.refl wr).alloc _)) rfl (RdC.of_blk (heap_alloc_new wr _)) (seg_one [s8]) (by omega) (by have := HSZ2.out; simp; omega) ?_
                      intro A14 c14 w14 hown14 hgr14 hat14
                      have hmt : Hid (Mv (fun k => ablk As = some k) wo w14) := (hmv.out.then ((Fr.refl wr).alloc _)).grown hgr14.out (fun j hj => .inl hj)
                      have HB14 := Lib.hid (HGET.out w14 hmt.out)
                      have y10 := HB14.out.cell j _ HG2.out
                      have z10 := HB14.out.frozen j
                      clear hown14 hgr14 hat14 y9
                      go_wp2_with fail
                      have hms : Mv (one1 g) w14 (w14.setCell ⟨g, j, none⟩ (.slice A14 (k + 1) c14)) := (Mv.refl (one1 g) w14).set (p := ⟨g, j, none⟩) (.inl rfl) _
                      refine ⟨⟨j + 1, pre ++ [.slice A14 (k + 1) c14], rfl, by omega, ?_, ?_, ?_, ?_⟩, by simp only [intOf]; omega⟩
                      · rw [Hid, List.length_append, hpl.out]; rfl
                      · have h9 := HB14.out.set j (.slice A14 (k + 1) c14)
                        rw [HEU.out, set_mid hpl.out] at h9
                        exact h9
                      · refine (HREST.out.mvs hmt.out (fun v hv k' hk' hT => ?_)).mv hms (fun k' h _ cs fr he => ?_)
                        · have := HPD.out v hv k' k' hT hk'
                          omega
                        · have h9 := HB14.out
                          unfold Blk at h9
                          rw [show k' = g from h, h9] at he
                          injection he with he; injection he with _ h9 _
                          revert h9; decide
                      · exact (hf.out.mv hmt.out (fun k' hk' => (HOWN.out.lt k' hk').1)).mv hms (fun k' hk' => by rw [show k' = g from hk']; exact HGB.out)
                · obtain rfl : j = N := by omega
                  have d1 : decide (j < j) = false := by simp
                  obtain ⟨b11, hb11⟩ := own_some HOWN11.out (by omega)
                  subst hb11
                  have gi : (i : Int) < (i : Int) + 2 := by omega
                  clear hbk hrs
                  go_wp2_with fail
                  refine (ALK.out wr (HF7_11.out.trans hf.out)).mono ?_
                  rintro _ w15 ⟨rfl, hf15⟩
                  have HF15 : Hid (Fr w11 w15) := hf.out.trans hf15
                  have x8 := (HOWN11.out.fr HF15.out).rd.get (i * 3) (.int .u64 8) (by rw [List.getElem?_append_right (by rw [HXS.out.len]; exact Nat.le_refl _), HXS.out.len, Nat.sub_self]; rfl)
                  rw [Nat.zero_add] at x8
                  clear hf15
                  go_wp2_with fail
                  go_ret
                  exact ⟨rfl, HFW7.out.trans (HF7_11.out.trans HF15.out)⟩
end Go.Proofs.YtelpbbkmkighfaaGreat
namespace Go.Proofs.YtelpbbkmkighfaaGreat.rowBuilds
open Go.ChangeShapes Go.WideShapes Go.ChangeAt Go.RowKit Go.Inc

open Go.Run

set_option maxRecDepth 100000 in
theorem contract (H : Type) (enc : TypeId × Value → H) (W : World) (base : Nat) (args : Array Value) (ds gs : List (DataW H)) (before : List MemPlace)
    (hval : ∀ (j : Nat) t v, Tryz.f4.params[j]? = some t → args[j]? = some v → Value.okWide Tryz.prog W .any base t v)
    (hW : DataW.Whole enc Tryz.prog Tryz.f4.params.toList Rows.runBuildsSpec.vars false W args.toList ds gs before) (hk : Rows.uptoSmall H (ds ++ gs) = true) :
    Calls Tryz.prog 4 args W fun e W' => ∃ v, e = .returned v ∧ Rows.runBuildsSpec.post enc Tryz.prog Tryz.f4 false true false false W args v W' := by
  have hW' := hW
  obtain ⟨p, q, hA0, hV, rfl, hfz, hnd⟩ := hW
  have hA : DataW.TrodAll enc Tryz.prog W 0 (fun _ => true) true Tryz.f4.params.toList args.toList ds p := hA0
  rw [Tryz.params4] at hA hval
  obtain ⟨v0, vs0, d0, ds0, p0, q0, hargs, rfl, rfl, h0, r0⟩ := trodAll_cons hA
  obtain ⟨v1, vs1, d1, ds1, p1, q1, rfl, rfl, rfl, h1, r1⟩ := trodAll_cons r0
  obtain ⟨rfl, rfl, rfl⟩ := trodAll_nil r1
  obtain rfl : args = #[v0, v1] := by cases args; simp_all
  obtain ⟨rfl, rfl⟩ := trodVars_none hV
  have hk2 := bulk_small hk
  simp only [List.append_nil, Rows.uptoBulkAll] at hk2
  obtain ⟨a0, len0, cap0, rfl⟩ := okWide_slice Tryz.underlying22 (hval 0 22 v0 rfl rfl)
  obtain ⟨fuel0, hf0⟩ := h0
  obtain ⟨A0, n0, c0, xs0, hcs0, hn0, hc0, hm0, hrd0, hd0⟩ := open_rows encells (fun x _ => EntOk x) Tryz.underlying22 rfl (by decide) (fun _ => rfl) (el_ent) hf0
  simp [Value.cells] at hcs0
  obtain ⟨rfl, rfl, rfl⟩ := hcs0
  have hl0 : xs0.length + 1 ≤ Rows.uptoBulk d0 := bulk_rows hd0
  obtain ⟨x1, rfl, rfl, rfl, w1⟩ := open_int Tryz.underlying3 (hval 1 3 v1 rfl rfl) h1
  have b1 : -9223372036854775808 ≤ x1 ∧ x1 ≤ 9223372036854775807 := by simpa [Lit.wf, IntKind.min, IntKind.max, IntKind.signed, IntKind.bits] using w1
  have hE0 : ∀ e ∈ xs0, EntOk e := fun y hy => by
    obtain ⟨d', h1, _⟩ := bulk_elem hd0 y hy
    exact h1
  refine (runBuilds_calls xs0 a0 len0 cap0 x1 hn0 (by omega) (by omega) hE0 W hrd0).mono fun e W' ⟨he, hg⟩ => ?_
  subst he
  exact ⟨_, rfl, law_post laidOut rfl 4 rfl Tryz.underlying4 (fun ds h => by
    match ds, h with
    | [_, _], _ => rfl) (by kernel_rfl) hW' hg⟩

set_option maxRecDepth 100000 in
theorem lifted (os : Os) (started : os.Started) (H : Type) (enc : TypeId × Value → H) (F : Stop.Interp) :
    ReturnsInHanded {} Tryz.checked os 4 .any ((Rows.OpenSpec.upto Rows.runBuildsSpec).pre6 enc Tryz.prog Tryz.f4 Rows.runBuildsUptoRow.domain false) (((Rows.OpenSpec.upto Rows.runBuildsSpec).at F).post enc Tryz.prog Tryz.f4 false true false false) := by
  refine returnsInHanded_of_cond (C := Tryz.checked) (s := Rows.OpenSpec.upto Rows.runBuildsSpec) (k := Rows.uptoSmall) rfl own started (by kernel_rfl) Tryz.func4
    (OpenSpec.witness (enc := enc) (C := Tryz.checked) (s := Rows.OpenSpec.upto Rows.runBuildsSpec) (k := Rows.uptoSmall) rfl false ⟨#[], #[.slice none 0 0, .int .i64 0], []⟩ 8 (by kernel_rfl) (by kernel_rfl) (by kernel_rfl)
      (x := ([.nil, .lit (.int .i64 0)], [], [])) (by kernel_rfl) rfl (by kernel_rfl)) ?_
  intro W base args ds gs before hval hW _ hk _
  exact contract H enc W base args ds gs before hval hW hk

theorem proved : Rows.RunBuildsUptoSaid :=
  OpenClaim.holds_of_cond 4 Tryz.f4 rfl rfl rfl rfl rfl rfl rfl ⟨rfl, rfl, rfl, rfl, rfl⟩ rfl rfl rfl rfl rfl (by kernel_rfl) Tryz.func4 (by kernel_rfl)
    (of_decide_eq_true (by kernel_rfl)) (by unfold Func.isWrapper; first | (rw [if_pos (by decide +kernel)]; kernel_rfl) | (rw [if_neg (by decide +kernel)]; exact ⟨rfl, rfl⟩))
    (fun os started H enc _ F => lifted os started H enc F)

end Go.Proofs.YtelpbbkmkighfaaGreat.rowBuilds
#print axioms Go.Proofs.YtelpbbkmkighfaaGreat.rowBuilds.proved
