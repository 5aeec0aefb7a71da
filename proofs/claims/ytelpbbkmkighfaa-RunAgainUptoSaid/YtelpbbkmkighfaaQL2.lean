/- RunAgain holds: for every input whose bulk is at most 1048576 the law returns true and its arguments read as before. -/
import Derived.Test.YtelpbbkmkighfaaQM
import Derived.Test.YtelpbbkmkighfaaQK
namespace Go.Proofs.Ytelpbbkmkighfaa
set_option maxRecDepth 100000
open Go.RowKit Go.Inc Go.Run
attribute [local go_sem] run_store_float

set_option maxHeartbeats 4000000 in
theorem runAgain_calls (E : List Ent) (A : Option Addr) (n c : Nat) (eps : Int) (hn : n = E.length) (hc : n ≤ c) (hl : n ≤ 268435456) (hE : ∀ e ∈ E, EntOk e) (w : World) (hr : RdC w A (E.flatMap encells)) :
    Calls Try.prog 4 #[.slice A n c, .int .i64 eps] w fun e w' => e = .returned (.bool true) ∧ Fr w w' := by
  have HR := Lib.hid hr
  have HN := Lib.hid hn
  have HE := Lib.hid hE
  have NW : Hid (∀ w', Fr w w' → Calls Try.prog 6 #[.slice A n c, .int .i64 eps] w' (NewOut E eps w')) := fun w' h => rnew_any E A n c eps hn hc hl hE w' (hr.fr h)
  have CK : Hid (∀ w', Fr w w' → Calls Try.prog 7 #[.slice A n c] w' fun e w'' => ∃ v, e = .returned (.int .i64 v) ∧ Chk3 E v ∧ Fr w' w'') := fun w' h => r3check_calls E A n c hn hl w' (hr.fr h)
  have SL : Hid (∀ w' A' c', Fr w w' → RdC w' A' (E.flatMap encells) → Calls Try.prog 15 #[.slice A' n c', .slice A n c] w' fun e w'' => e = .returned (.bool true) ∧ Fr w' w'') := fun w' A' c' h h' => samelist_calls E A' n c' A c hn hl w' h' (hr.fr h)
  clear hr hn hE hc
  go_enter Try.func4, Try.ntmps4
  go_wp2_with fail
  refine (shown11_calls w).mono ?_
  rintro _ w1 ⟨rfl, hf1⟩
  have HF1 := Lib.hid hf1
  clear hf1
  go_wp2_with fail
  refine (NW.out w1 HF1.out).mono ?_
  rintro e2 w2 ⟨hf2, hor⟩
  have HF2 : Hid (Fr w w2) := HF1.out.trans hf2
  clear hf2
  rcases hor with ⟨v, hv, hvE, rfl⟩ | ⟨he, r, p, Ss, rfl, _, hb⟩
  · have HV := Lib.hid (And.intro hv hvE)
    clear hv hvE
    go_wp2_with fail
    refine (CK.out w2 HF2.out).mono ?_
    rintro _ w3 ⟨v3, rfl, h3, hf3⟩
    have HF3 : Hid (Fr w w3) := HF2.out.trans hf3
    have H3 := Lib.hid h3
    clear h3 hf3
    by_cases hv3 : v3 = 0
    · subst hv3
      have hbad : eps < 2 ∨ 64 < eps := by
        obtain ⟨h1, h2⟩ := HV.out
        rcases h2 with ⟨h2, _⟩ | ⟨_, h2⟩
        · exact h2
        · exact absurd (chk3_eq h2 H3.out) h1
      by_cases h1 : eps < 2
      · have d1 : decide (eps < 2) = true := decide_eq_true h1
        clear hbad h1
        go_wp2_with fail
        go_ret
        exact ⟨rfl, HF3.out⟩
      · have d1 : decide (eps < 2) = false := decide_eq_false h1
        have d2 : decide (eps > 64) = true := decide_eq_true (by omega)
        clear hbad h1
        go_wp2_with fail
        go_ret
        exact ⟨rfl, HF3.out⟩
    · have d0 : (v3 != 0) = true := by simpa using hv3
      clear hv3
      go_wp2_with fail
      go_ret
      exact ⟨rfl, HF3.out⟩
  · have HB : Hid (∀ w', Fr w2 w' → Built w' r p eps E Ss) := fun w' h => hb.fr h
    have HEP := Lib.hid he
    have hcell : w2.cell? ⟨r, 0, none⟩ = some (.pointer (some ⟨p, 0, none⟩)) := hb.run.ptr
    have HCELL : Hid (∀ w', Fr w2 w' → w'.cell? ⟨r, 0, none⟩ = some (.pointer (some ⟨p, 0, none⟩))) := fun w' h => (hb.fr h).run.ptr
    have LST : Hid (∀ w', Fr w2 w' → Calls Try.prog 12 #[.pointer (some ⟨r, 0, none⟩)] w' fun e w'' => ∃ A' c', e = .returned (.slice A' n c') ∧ (n ≤ c' ∧ RdC w'' A' (E.flatMap encells)) ∧ Fr w' w'') := fun w' h =>
      (rlist_calls r p eps E Ss (by have := HN.out; omega) w2.heap.size w' h.size (hb.fr h).run).mono fun _ _ ⟨A', c', h1, h2, h3⟩ => ⟨A', c', by rw [HN.out]; exact h1, ⟨by rw [HN.out]; exact own_le h2, h2.rd⟩, h3⟩
    have LEV : Hid (∀ w', Fr w2 w' → Calls Try.prog 14 #[.pointer (some ⟨r, 0, none⟩)] w' fun e w'' => ∃ g us, e = .returned (.slice (some ⟨g, 0, none⟩) Ss.length Ss.length) ∧ (RdC w'' (some ⟨g, 0, none⟩) us ∧ RowsR w'' us Ss) ∧ Fr w' w'') := fun w' h =>
      (rlevels_calls r p eps E Ss hb.small.1 hb.small.2 w2.heap.size w' h.size (hb.fr h).run).mono fun _ _ ⟨g, us, h1, _, h3, _, h5, h6⟩ => ⟨g, us, h1, ⟨RdC.blk h3, h5.toR⟩, h6⟩
    have EPS : Hid (∀ w', Fr w2 w' → Calls Try.prog 13 #[.pointer (some ⟨p, 0, none⟩)] w' fun e w'' => e = .returned (.int .i64 eps) ∧ w'' = w') := fun w' h => peps_calls p eps (keysE E) Ss w' (hb.fr h).run.pile
    have OF : Hid (∀ w' A' c' g us, Fr w2 w' → n ≤ c' → RdC w' A' (E.flatMap encells) → RdC w' (some ⟨g, 0, none⟩) us → RowsR w' us Ss → Calls Try.prog 11 #[.slice A' n c', .int .i64 eps, .slice (some ⟨g, 0, none⟩) Ss.length Ss.length] w' fun e w'' => ∃ r', e = .returned (.tuple #[.pointer (some ⟨r', 0, none⟩), .int .i64 0]) ∧ Fr w' w'' ∧ ∃ p', RunR w'' r' p' eps E Ss) := by
      intro w' A' c' g us hf hc' hr1 hr2 hr3
      refine (rof_calls E A' n c' eps (some ⟨g, 0, none⟩) Ss.length Ss.length us Ss HN.out hc' hl HE.out rfl hb.small.1 (fun S hS => ⟨hb.small.2 S hS, (hb.ok.rows S hS).2⟩) HEP.out w' hr1 hr2 hr3).mono ?_
      rintro e w'' ⟨hf', hor⟩
      rcases hor with ⟨v, hv, hvE, _⟩ | ⟨_, hz, _⟩ | ⟨_, _, r', h1, h2⟩
      · exfalso
        obtain ⟨z1, z2⟩ := entsV_zero hb.ents
        cases hvE with
        | ok _ _ => exact hv rfl
        | order h _ => exact h z1
        | gone b h hb _ _ => rw [z2 _ (List.getElem_mem h)] at hb; cases hb
        | goneOrder b h hb _ _ => rw [z2 _ (List.getElem_mem h)] at hb; cases hb
      · exact absurd hb.ok.chk hz
      · exact ⟨r', h1, hf', h2.toR⟩
    have NEW : Hid (∀ w' A' c', Fr w2 w' → n ≤ c' → RdC w' A' (E.flatMap encells) → Calls Try.prog 6 #[.slice A' n c', .int .i64 eps] w' fun e w'' => ∃ r', e = .returned (.tuple #[.pointer (some ⟨r', 0, none⟩), .int .i64 0]) ∧ Fr w' w'' ∧ ∃ p', RunR w'' r' p' eps E Ss) := by
      intro w' A' c' hf hc' hr1
      refine (rnew_any E A' n c' eps HN.out hc' hl HE.out w' hr1).mono ?_
      rintro e w'' ⟨hf', hor⟩
      rcases hor with ⟨v, hv, hvE, _⟩ | ⟨_, r', p', Ss', h1, _, h2⟩
      · exfalso
        rcases hvE with ⟨h, _⟩ | ⟨_, hvE⟩
        · have := HEP.out; omega
        · obtain ⟨z1, z2⟩ := entsV_zero hb.ents
          cases hvE with
          | ok _ _ => exact hv rfl
          | order h _ => exact h z1
          | gone b h hb _ _ => rw [z2 _ (List.getElem_mem h)] at hb; cases hb
          | goneOrder b h hb _ _ => rw [z2 _ (List.getElem_mem h)] at hb; cases hb
      · obtain rfl := levels_unique hb.ok.rise hb.ok.keys h2.lv hb.lv
        exact ⟨r', h1, hf', p', h2.run⟩
    have SM := Lib.hid hb.small
    obtain ⟨N, hN⟩ : ∃ N, Ss.length = N := ⟨_, rfl⟩
    rw [hN] at LEV OF
    have HNS := Lib.hid hN
    clear hb he hN
    go_wp2_with fail
    go_region_held3 (fun w' => w'.cell? ⟨r, 0, none⟩ = some (.pointer (some ⟨p, 0, none⟩)))
      (first | exact HCELL.out _ hfd.out | exact HCELL.out _ hfc.out | exact HCELL.out _ hfb.out | exact HCELL.out _ hfa.out | exact HCELL.out _ (Fr.refl _) | exact HCELL.out _ (Fr.refl _).drew)
      (first
        | (go_at_call 12; refine (LST.out _ (by first | exact hfb.out | exact hfa.out | exact (Fr.refl _).drew)).mono ?_; rintro e wl ⟨A3, c3, rfl, hl3, hql⟩; have HL3 := Lib.hid hl3; (first | (have hfb : Hid (Fr w2 wl) := hfa.out.trans hql) | (have hfa : Hid (Fr w2 wl) := (Fr.refl w2).drew.trans hql)); try (have HV4 := Lib.hid (And.intro (HV3.out.1.fr hql) (HV3.out.2.fr hql))); clear hl3 hql)
        | (go_at_call 14; refine (LEV.out _ (by first | exact hfb.out | exact hfa.out | exact (Fr.refl _).drew)).mono ?_; rintro e wv ⟨g3, us3, rfl, hv3, hqv⟩; have HV3 := Lib.hid hv3; (first | (have hfb : Hid (Fr w2 wv) := hfa.out.trans hqv) | (have hfa : Hid (Fr w2 wv) := (Fr.refl w2).drew.trans hqv)); try (have HL4 := Lib.hid (And.intro HL3.out.1 (HL3.out.2.fr hqv))); clear hv3 hqv)
        | (go_at_call 13; refine (EPS.out _ (by first | exact hfb.out | exact hfa.out | exact (Fr.refl _).drew)).mono ?_; rintro e we ⟨rfl, hwe⟩; subst hwe)
        | (go_at_call 11; refine (OF.out _ _ _ _ _ hfb.out HL3.out.1 (by first | exact HL4.out.2 | exact HL3.out.2) (by first | exact HV4.out.1 | exact HV3.out.1) (by first | exact HV4.out.2 | exact HV3.out.2)).mono ?_; rintro e wo ⟨ra, rfl, hqo, pa, hra⟩; have hfc : Hid (Fr w2 wo) := hfb.out.trans hqo; have HRA := Lib.hid hra; clear hqo hra))
    have HCELL2 : Hid (∀ w', Fr wo w' → w'.cell? ⟨r, 0, none⟩ = some (.pointer (some ⟨p, 0, none⟩))) := fun w' h => HCELL.out w' (hfc.out.trans h)
    clear hcell
    have hcell : wo.cell? ⟨r, 0, none⟩ = some (.pointer (some ⟨p, 0, none⟩)) := HCELL2.out _ (Fr.refl _)
    go_wp2_with fail
    go_region_held3 (fun w' => w'.cell? ⟨r, 0, none⟩ = some (.pointer (some ⟨p, 0, none⟩)))
      (first | exact HCELL2.out _ hgb.out | exact HCELL2.out _ hga.out | exact HCELL2.out _ (Fr.refl _) | exact HCELL2.out _ (Fr.refl _).drew)
      (first
        | (go_at_call 12; refine (LST.out _ (hfc.out.trans (Fr.refl _).drew)).mono ?_; rintro e wl2 ⟨A5, c5, rfl, hl5, hql⟩; have HL5 := Lib.hid hl5; have hga : Hid (Fr wo wl2) := (Fr.refl wo).drew.trans hql; clear hl5 hql)
        | (go_at_call 13; refine (EPS.out _ (hfc.out.trans hga.out)).mono ?_; rintro e we2 ⟨rfl, hwe⟩; subst hwe)
        | (go_at_call 6; refine (NEW.out _ _ _ (hfc.out.trans hga.out) HL5.out.1 HL5.out.2).mono ?_; rintro e wn ⟨rb, rfl, hqo, pb, hrb⟩; have hgb : Hid (Fr wo wn) := hga.out.trans hqo; have HRB := Lib.hid hrb; clear hqo hrb))
    have HFN : Hid (Fr w2 wn) := hfc.out.trans hgb.out
    have HA : Hid (∀ w', Fr wn w' → RunR w' ra pa eps E Ss) := fun w' h => HRA.out.fr (hgb.out.trans h)
    have HBB : Hid (∀ w', Fr wn w' → RunR w' rb pb eps E Ss) := fun w' h => HRB.out.fr h
    have LSTX : Hid (∀ r' p' w', RunR w' r' p' eps E Ss → Calls Try.prog 12 #[.pointer (some ⟨r', 0, none⟩)] w' fun e w'' => ∃ A' c', e = .returned (.slice A' n c') ∧ RdC w'' A' (E.flatMap encells) ∧ Fr w' w'') := fun r' p' w' h =>
      (rlist_calls r' p' eps E Ss (by have := HN.out; omega) 0 w' (Nat.zero_le _) h).mono fun _ _ ⟨A', c', h1, h2, h3⟩ => ⟨A', c', by rw [HN.out]; exact h1, h2.rd, h3⟩
    have LEVX : Hid (∀ r' p' w', RunR w' r' p' eps E Ss → Calls Try.prog 14 #[.pointer (some ⟨r', 0, none⟩)] w' fun e w'' => ∃ g us, e = .returned (.slice (some ⟨g, 0, none⟩) N N) ∧ (RdC w'' (some ⟨g, 0, none⟩) us ∧ RowsR w'' us Ss) ∧ Fr w' w'') := fun r' p' w' h =>
      (rlevels_calls r' p' eps E Ss SM.out.1 SM.out.2 0 w' (Nat.zero_le _) h).mono fun _ _ ⟨g, us, h1, _, h3, _, h5, h6⟩ => ⟨g, us, by rw [← HNS.out]; exact h1, ⟨RdC.blk h3, h5.toR⟩, h6⟩
    have SLV : Hid (∀ w' A' c' A'' c'' us us', RdC w' A' us → RowsR w' us Ss → RdC w' A'' us' → RowsR w' us' Ss → Calls Try.prog 16 #[.slice A' N c', .slice A'' N c''] w' fun e w'' => e = .returned (.bool true) ∧ Fr w' w'') := fun w' A' c' A'' c'' us us' h1 h2 h3 h4 =>
      samelevels_calls Ss A' N c' A'' c'' us us' HNS.out.symm (by rw [← HNS.out]; exact SM.out.1) SM.out.2 w' h1 h3 h2 h4
    clear hcell
    go_wp2_with fail
    refine (LSTX.out ra pa wn (HA.out wn (Fr.refl _))).mono ?_
    rintro _ x1 ⟨A1, c1, rfl, hd1, hg1⟩
    have HX1 : Hid (Fr wn x1) := hg1
    have HD1 := Lib.hid hd1
    clear hg1 hd1
    go_wp2_with fail
    refine (SL.out x1 A1 c1 (HF2.out.trans (HFN.out.trans HX1.out)) HD1.out).mono ?_
    rintro _ x2 ⟨rfl, hg2⟩
    have HX2 : Hid (Fr wn x2) := HX1.out.trans hg2
    clear hg2
    go_wp2_with fail
    refine (LSTX.out rb pb x2 (HBB.out x2 HX2.out)).mono ?_
    rintro _ x3 ⟨A2, c2, rfl, hd2, hg3⟩
    have HX3 : Hid (Fr wn x3) := HX2.out.trans hg3
    have HD2 := Lib.hid hd2
    clear hg3 hd2
    go_wp2_with fail
    refine (SL.out x3 A2 c2 (HF2.out.trans (HFN.out.trans HX3.out)) HD2.out).mono ?_
    rintro _ x4 ⟨rfl, hg4⟩
    have HX4 : Hid (Fr wn x4) := HX3.out.trans hg4
    clear hg4
    go_wp2_with fail
    refine (LEVX.out ra pa x4 (HA.out x4 HX4.out)).mono ?_
    rintro _ x5 ⟨g5, us5, rfl, hd5, hg5⟩
    have HX5 : Hid (Fr wn x5) := HX4.out.trans hg5
    have HD5 := Lib.hid hd5
    clear hg5 hd5
    go_wp2_with fail
    refine (LEVX.out r p x5 (HB.out x5 (HFN.out.trans HX5.out)).run).mono ?_
    rintro _ x6 ⟨g6, us6, rfl, hd6, hg6⟩
    have HX6 : Hid (Fr wn x6) := HX5.out.trans hg6
    have HD6 := Lib.hid hd6
    have HD5' := Lib.hid (And.intro (HD5.out.1.fr hg6) (HD5.out.2.fr hg6))
    clear hg6 hd6
    go_wp2_with fail
    refine (SLV.out x6 _ N _ N us5 us6 HD5'.out.1 HD5'.out.2 HD6.out.1 HD6.out.2).mono ?_
    rintro _ x7 ⟨rfl, hg7⟩
    have HX7 : Hid (Fr wn x7) := HX6.out.trans hg7
    clear hg7
    go_wp2_with fail
    refine (LEVX.out rb pb x7 (HBB.out x7 HX7.out)).mono ?_
    rintro _ x8 ⟨g8, us8, rfl, hd8, hg8⟩
    have HX8 : Hid (Fr wn x8) := HX7.out.trans hg8
    have HD8 := Lib.hid hd8
    clear hg8 hd8
    go_wp2_with fail
    refine (LEVX.out r p x8 (HB.out x8 (HFN.out.trans HX8.out)).run).mono ?_
    rintro _ x9 ⟨g9, us9, rfl, hd9, hg9⟩
    have HX9 : Hid (Fr wn x9) := HX8.out.trans hg9
    have HD9 := Lib.hid hd9
    have HD8' := Lib.hid (And.intro (HD8.out.1.fr hg9) (HD8.out.2.fr hg9))
    clear hg9 hd9
    go_wp2_with fail
    refine (SLV.out x9 _ N _ N us8 us9 HD8'.out.1 HD8'.out.2 HD9.out.1 HD9.out.2).mono ?_
    rintro _ x10 ⟨rfl, hg10⟩
    have HX10 : Hid (Fr wn x10) := HX9.out.trans hg10
    clear hg10
    have q1 := (HA.out x10 HX10.out).ptr
    have q2 := (HBB.out x10 HX10.out).ptr
    go_wp2_with fail
    refine (peps_calls pa eps (keysE E) Ss x10 (HA.out x10 HX10.out).pile).mono ?_
    rintro _ x11 ⟨rfl, hx⟩
    subst hx
    go_wp2_with fail
    refine (peps_calls pb eps (keysE E) Ss x11 (HBB.out x11 HX10.out).pile).mono ?_
    rintro _ x12 ⟨rfl, hx⟩
    subst hx
    go_wp2_with fail
    go_ret
    exact ⟨rfl, HF2.out.trans (HFN.out.trans HX10.out)⟩
end Go.Proofs.Ytelpbbkmkighfaa
namespace Go.Proofs.Ytelpbbkmkighfaa.rowAgain
open Go.ChangeShapes Go.WideShapes Go.ChangeAt Go.RowKit Go.Inc

open Go.Run

set_option maxRecDepth 100000 in
theorem contract (H : Type) (enc : TypeId × Value → H) (W : World) (base : Nat) (args : Array Value) (ds gs : List (DataW H)) (before : List MemPlace)
    (hval : ∀ (j : Nat) t v, Try.f4.params[j]? = some t → args[j]? = some v → Value.okWide Try.prog W .any base t v)
    (hW : DataW.Whole enc Try.prog Try.f4.params.toList Rows.runAgainSpec.vars false W args.toList ds gs before) (hk : Rows.uptoSmall H (ds ++ gs) = true) :
    Calls Try.prog 4 args W fun e W' => ∃ v, e = .returned v ∧ Rows.runAgainSpec.post enc Try.prog Try.f4 false true false false W args v W' := by
  have hW' := hW
  obtain ⟨p, q, hA0, hV, rfl, hfz, hnd⟩ := hW
  have hA : DataW.TrodAll enc Try.prog W 0 (fun _ => true) true Try.f4.params.toList args.toList ds p := hA0
  rw [Try.params4] at hA hval
  obtain ⟨v0, vs0, d0, ds0, p0, q0, hargs, rfl, rfl, h0, r0⟩ := trodAll_cons hA
  obtain ⟨v1, vs1, d1, ds1, p1, q1, rfl, rfl, rfl, h1, r1⟩ := trodAll_cons r0
  obtain ⟨rfl, rfl, rfl⟩ := trodAll_nil r1
  obtain rfl : args = #[v0, v1] := by cases args; simp_all
  obtain ⟨rfl, rfl⟩ := trodVars_none hV
  have hk2 := bulk_small hk
  simp only [List.append_nil, Rows.uptoBulkAll] at hk2
  obtain ⟨a0, len0, cap0, rfl⟩ := okWide_slice Try.underlying22 (hval 0 22 v0 rfl rfl)
  obtain ⟨fuel0, hf0⟩ := h0
  obtain ⟨A0, n0, c0, xs0, hcs0, hn0, hc0, hm0, hrd0, hd0⟩ := open_rows encells (fun x _ => EntOk x) Try.underlying22 rfl (by decide) (fun _ => rfl) (el_ent) hf0
  simp [Value.cells] at hcs0
  obtain ⟨rfl, rfl, rfl⟩ := hcs0
  have hl0 : xs0.length + 1 ≤ Rows.uptoBulk d0 := bulk_rows hd0
  obtain ⟨x1, rfl, rfl, rfl, w1⟩ := open_int Try.underlying3 (hval 1 3 v1 rfl rfl) h1
  have b1 : -9223372036854775808 ≤ x1 ∧ x1 ≤ 9223372036854775807 := by simpa [Lit.wf, IntKind.min, IntKind.max, IntKind.signed, IntKind.bits] using w1
  have hE0 : ∀ e ∈ xs0, EntOk e := fun y hy => by
    obtain ⟨d', h1, _⟩ := bulk_elem hd0 y hy
    exact h1
  refine (runAgain_calls xs0 a0 len0 cap0 x1 hn0 (by omega) (by omega) hE0 W hrd0).mono fun e W' ⟨he, hg⟩ => ?_
  subst he
  exact ⟨_, rfl, law_post laidOut rfl 4 rfl Try.underlying4 (fun ds h => by
    match ds, h with
    | [_, _], _ => rfl) (by kernel_rfl) hW' hg⟩

set_option maxRecDepth 100000 in
theorem lifted (os : Os) (started : os.Started) (H : Type) (enc : TypeId × Value → H) (F : Stop.Interp) :
    ReturnsInHanded {} Try.checked os 4 .any ((Rows.OpenSpec.upto Rows.runAgainSpec).pre6 enc Try.prog Try.f4 Rows.runAgainUptoRow.domain false) (((Rows.OpenSpec.upto Rows.runAgainSpec).at F).post enc Try.prog Try.f4 false true false false) := by
  refine returnsInHanded_of_cond (C := Try.checked) (s := Rows.OpenSpec.upto Rows.runAgainSpec) (k := Rows.uptoSmall) rfl own started (by kernel_rfl) Try.func4
    (OpenSpec.witness (enc := enc) (C := Try.checked) (s := Rows.OpenSpec.upto Rows.runAgainSpec) (k := Rows.uptoSmall) rfl false ⟨#[], #[.slice none 0 0, .int .i64 0], []⟩ 8 (by kernel_rfl) (by kernel_rfl) (by kernel_rfl)
      (x := ([.nil, .lit (.int .i64 0)], [], [])) (by kernel_rfl) rfl (by kernel_rfl)) ?_
  intro W base args ds gs before hval hW _ hk _
  exact contract H enc W base args ds gs before hval hW hk

theorem proved : Rows.RunAgainUptoSaid :=
  OpenClaim.holds_of_cond 4 Try.f4 rfl rfl rfl rfl rfl rfl rfl ⟨rfl, rfl, rfl, rfl, rfl⟩ rfl rfl rfl rfl rfl (by kernel_rfl) Try.func4 (by kernel_rfl)
    (of_decide_eq_true (by kernel_rfl)) (by unfold Func.isWrapper; first | (rw [if_pos (by decide +kernel)]; kernel_rfl) | (rw [if_neg (by decide +kernel)]; exact ⟨rfl, rfl⟩))
    (fun os started H enc _ F => lifted os started H enc F)

end Go.Proofs.Ytelpbbkmkighfaa.rowAgain
#print axioms Go.Proofs.Ytelpbbkmkighfaa.rowAgain.proved
