/- CodecBack holds: for every input whose bulk is at most 1048576 the law returns true and its arguments read as before. -/
import Derived.Test.YthjimnmgbcckjaaGreatQW
import Derived.Test.YthjimnmgbcckjaaGreatQY
import Derived.Test.YthjimnmgbcckjaaGreatQX
namespace Go.Proofs.YthjimnmgbcckjaaGreat
set_option maxRecDepth 100000
open Go.RowKit Go.Inc Go.Run
attribute [local go_sem] run_store_float

set_option maxHeartbeats 8000000 in
theorem codecBack_calls (m : MadeC) (w : World) (hm : m.Ok w) : Calls Tryz.prog 4 #[m.val] w fun e w' => e = .returned (.bool true) ∧ Fr w w' := by
  have BOTH := Lib.hid (fun w' (hf : Fr w w') => cdBoth_calls m w' (hm.fr hf))
  have HMN := Lib.hid hm.n
  obtain ⟨E, hE⟩ : ∃ E, m.E = E := ⟨_, rfl⟩
  rw [hE] at BOTH
  obtain ⟨A, n, c, eps, own, AU, N, cU, E', Ss, vs⟩ := m
  have HV : Hid ((⟨A, n, c, eps, own, AU, N, cU, E', Ss, vs⟩ : MadeC).val = .agg #[.slice A n c, .int .i64 eps, .bool own, .slice AU N cU]) := rfl
  rw [HV.out] at BOTH ⊢
  have hba := heap_alloc_new w (.cells #[.slice A n c, .int .i64 eps, .bool own, .slice AU N cU] 25)
  obtain ⟨w1, hw1⟩ : ∃ w1, w1 = w.alloc (.cells #[.slice A n c, .int .i64 eps, .bool own, .slice AU N cU] 25) := ⟨_, rfl⟩
  have HF1 : Hid (Fr w w1) := by rw [hw1]; exact (Fr.refl w).alloc _
  rw [← hw1] at hba
  have HX : Hid (∀ w', Fr w1 w' → w'.cell? ⟨w.heap.size, 0, none⟩ = some (.slice A n c) ∧ w'.cell? ⟨w.heap.size, 1, none⟩ = some (.int .i64 eps) ∧ w'.cell? ⟨w.heap.size, 2, none⟩ = some (.bool own) ∧ w'.cell? ⟨w.heap.size, 3, none⟩ = some (.slice AU N cU)) := fun w' h => cells4 (h.blk hba)
  have HEN : Hid (E.length = n) := by rw [Hid, ← hE]; exact HMN.out.symm
  clear hm hba HV hE HMN
  go_enter Tryz.func4, Tryz.ntmps4
  go_wp2_with fail
  rw [← hw1]
  clear hw1
  refine (shown12_calls w1).mono ?_
  rintro _ w2 ⟨rfl, hf2⟩
  have HF2 : Hid (Fr w w2) := HF1.out.trans hf2
  have HF12 : Hid (Fr w1 w2) := hf2
  obtain ⟨x0, x1, x2, x3⟩ := HX.out w2 hf2
  clear hf2
  go_wp2_with fail
  refine (BOTH.out w2 HF2.out).mono ?_
  rintro _ w3 ⟨hf3, hor⟩
  have HF3 : Hid (Fr w w3) := HF2.out.trans hf3
  have HF13' : Hid (Fr w1 w3) := HF12.out.trans hf3
  clear hf3 x0 x1 x2 x3
  rcases hor with rfl | ⟨x, y, p, base, e0, Ss', rfl, hx, hy, hg⟩
  · go_wp2_with fail
    go_ret
    exact ⟨rfl, HF3.out⟩
  have hgb : getB (bstr (encB incW e0 E Ss')) = some (e0, E, Ss') := getB_enc hg.codes hg.in64.1 hg.ents hg.chk
  have HGG := Lib.hid hg
  have PUT : Hid (∀ w' r p, RunR w' r p (e0 : Nat) E Ss' → Calls Tryz.prog 11 #[.pointer (some ⟨r, 0, none⟩)] w' (Made w' w'.heap.size (encB incW e0 E Ss'))) := fun w' r p h => put_good hg h
  have hsz := hg.size
  obtain ⟨B, hB⟩ : ∃ B, encB incW e0 E Ss' = B := ⟨_, rfl⟩
  rw [hB] at PUT hsz hgb
  obtain ⟨L, hL⟩ : ∃ L, B.length = L := ⟨_, rfl⟩
  have PUT2 : Hid (∀ w' r p, RunR w' r p (e0 : Nat) E Ss' → Calls Tryz.prog 11 #[.pointer (some ⟨r, 0, none⟩)] w' fun e w'' => ∃ A c, e = .returned (.slice A L c) ∧ Own w'' w'.heap.size 5 1 A L c (B.map bv) ∧ Fr w' w'') := fun w' r p h => by have := PUT.out w' r p h; unfold Made at this; rw [hL] at this; exact this
  have GET : Hid (∀ w' A' c', RdC w' A' (B.map bv) → Calls Tryz.prog 13 #[.slice A' L c'] w' fun e w'' => Fr w' w'' ∧ ∃ r base, e = .returned (.tuple #[.pointer (some ⟨r, 0, none⟩), .int .i64 0]) ∧ w'.heap.size ≤ base ∧ IsRun w'' r base (e0 : Nat) E Ss') := fun w' A' c' h => get_some A' L c' B hL.symm (by omega) w' h hgb
  have HSTR : Hid (∀ w' A' c', RdC w' A' (B.map bv) → (convert 31 9 (.slice A' L c')).run Tryz.prog w' = .ok (.string (bstr B)) w') := fun w' A' c' h => run_str (P := Tryz.prog) 31 5 9 Tryz.underlying31 Tryz.underlying5 Tryz.underlying9 w' A' L c' B hL.symm h
  have LST : Hid (∀ w', Fr w3 w' → Calls Tryz.prog 14 #[.pointer (some ⟨x, 0, none⟩)] w' fun e w'' => ∃ A' c', e = .returned (.slice A' n c') ∧ RdC w'' A' (E.flatMap encells) ∧ Fr w' w'') := fun w' hf => by
    rw [← HEN.out]
    exact (rlist_calls x p (e0 : Nat) E Ss' (by have := hg.len; omega) w'.heap.size w' (Nat.le_refl _) (hx.fr hf)).mono fun _ _ ⟨A', c', h1, h2, h3⟩ => ⟨A', c', h1, h2.rd, h3⟩
  obtain ⟨NS, hNS⟩ : ∃ NS, Ss'.length = NS := ⟨_, rfl⟩
  have LEV : Hid (∀ w', Fr w3 w' → Calls Tryz.prog 15 #[.pointer (some ⟨x, 0, none⟩)] w' fun e w'' => ∃ A' us, e = .returned (.slice A' NS NS) ∧ (RdC w'' A' us ∧ RowsR w'' us Ss') ∧ Fr w' w'') := fun w' hf => by
    rw [← hNS]
    exact (rlevels_calls x p (e0 : Nat) E Ss' (by have := hg.high; omega) (fun S hS => by have := hg.rows S hS; omega) w'.heap.size w' (Nat.le_refl _) (hx.fr hf)).mono fun _ _ ⟨g, us, h1, h2, h3, h4, h5, h6⟩ => ⟨_, us, h1, ⟨RdC.blk h3, h5.toR⟩, h6⟩
  have EPS : Hid (∀ w', Fr w3 w' → Calls Tryz.prog 17 #[.pointer (some ⟨p, 0, none⟩)] w' fun e w'' => e = .returned (.int .i64 (e0 : Nat)) ∧ w'' = w') := fun w' hf => peps_calls p (e0 : Nat) (keysE E) Ss' w' (hx.fr hf).pile
  have HP : Hid (∀ w', Fr w3 w' → w'.cell? ⟨x, 0, none⟩ = some (.pointer (some ⟨p, 0, none⟩))) := fun w' hf => (hx.fr hf).ptr
  have ALI : Hid (∀ w' r p A' c' Av vs, RunR w' r p (e0 : Nat) E Ss' → RdC w' A' (E.flatMap encells) → RdC w' Av vs → RowsR w' vs Ss' → Calls Tryz.prog 16 #[.pointer (some ⟨r, 0, none⟩), .slice A' n c', .int .i64 (e0 : Nat), .slice Av NS NS] w' fun e w'' => e = .returned (.bool true) ∧ Fr w' w'') := fun w' r p A' c' Av vs h1 h2 h3 h4 =>
    cdAlike_calls r p (e0 : Nat) E Ss' A' n c' Av NS NS vs HEN.out.symm hNS.symm (by rw [← HEN.out]; have := hg.len; omega) (by have := hg.high; omega) (fun S hS => by have := hg.rows S hS; omega) w' h1 h2 h3 h4
  have HRX := Lib.hid hx
  have HF13 : Hid (Fr w1 w3) := HF13'
  clear hx hy hg hB hL hNS PUT hgb
  go_wp2_with fail
  refine (PUT2.out w3 x p HRX.out).mono ?_
  rintro _ w4 ⟨A4, c4, rfl, ho4, hf4⟩
  have HR4 : Hid (RdC w4 A4 (B.map bv)) := ho4.rd
  have HF34 : Hid (Fr w3 w4) := hf4
  clear ho4 hf4
  go_wp2_with fail
  refine (GET.out w4 A4 c4 HR4.out).mono ?_
  rintro _ w5 ⟨hf5, z, bz, rfl, hbz, hz⟩
  obtain ⟨pz, hzr⟩ := hz.toR
  have HZ := Lib.hid hzr
  have HF35 : Hid (Fr w3 w5) := HF34.out.trans hf5
  have HR5 : Hid (RdC w5 A4 (B.map bv)) := HR4.out.fr hf5
  clear hf5 hbz hz hzr
  go_wp2_with fail
  refine (LST.out w5 HF35.out).mono ?_
  rintro _ w6 ⟨A6, c6, rfl, hr6, hf6⟩
  have HF36 : Hid (Fr w3 w6) := HF35.out.trans hf6
  have HF56 : Hid (Fr w5 w6) := hf6
  have HR6 := Lib.hid hr6
  clear hr6 hf6
  go_wp2_with fail
  refine (LEV.out w6 HF36.out).mono ?_
  rintro _ w7 ⟨A7, us, rfl, hr7, hf7⟩
  have HF37 : Hid (Fr w3 w7) := HF36.out.trans hf7
  have HF57 : Hid (Fr w5 w7) := HF56.out.trans hf7
  have HR67 : Hid (RdC w7 A6 (E.flatMap encells)) := HR6.out.fr hf7
  have HR7 := Lib.hid hr7
  have y0 := HP.out w7 HF37.out
  clear hr7 hf7
  go_wp2_with fail
  refine (EPS.out w7 HF37.out).mono ?_
  rintro _ w8 ⟨rfl, rfl⟩
  go_wp2_with fail
  refine (ALI.out w8 z pz A6 c6 A7 us (HZ.out.fr HF57.out) HR67.out HR7.out.1 HR7.out.2).mono ?_
  rintro _ w9 ⟨rfl, hf9⟩
  have HF39 : Hid (Fr w3 w9) := HF37.out.trans hf9
  have HF59 : Hid (Fr w5 w9) := HF57.out.trans hf9
  clear hf9 y0
  go_wp2_with fail
  refine (PUT2.out w9 z pz (HZ.out.fr HF59.out)).mono ?_
  rintro _ w10 ⟨A10, c10, rfl, ho10, hf10⟩
  have HF10 : Hid (Fr w w10) := HF3.out.trans (HF39.out.trans hf10)
  have s1 := HSTR.out w10 A4 c4 (HR5.out.fr (HF59.out.trans hf10))
  have s2 := HSTR.out w10 A10 c10 ho10.rd
  obtain ⟨x0, x1, x2, x3⟩ := HX.out w10 (HF13.out.trans (HF39.out.trans hf10))
  clear ho10 hf10
  go_wp2_with fail
  go_ret
  exact ⟨rfl, HF10.out⟩
end Go.Proofs.YthjimnmgbcckjaaGreat
namespace Go.Proofs.YthjimnmgbcckjaaGreat.rowCBack
open Go.ChangeShapes Go.WideShapes Go.ChangeAt Go.RowKit Go.Inc

open Go.Run
open Go.Proofs.YthjimnmgbcckjaaGreat

set_option maxRecDepth 100000 in
theorem contract (H : Type) (enc : TypeId × Value → H) (W : World) (base : Nat) (args : Array Value) (ds gs : List (DataW H)) (before : List MemPlace)
    (hval : ∀ (j : Nat) t v, Tryz.f4.params[j]? = some t → args[j]? = some v → Value.okWide Tryz.prog W .any base t v)
    (hW : DataW.Whole enc Tryz.prog Tryz.f4.params.toList Rows.codecBackSpec.vars false W args.toList ds gs before) (hk : Rows.uptoSmall H (ds ++ gs) = true) :
    Calls Tryz.prog 4 args W fun e W' => ∃ v, e = .returned v ∧ Rows.codecBackSpec.post enc Tryz.prog Tryz.f4 false true false false W args v W' := by
  have hW' := hW
  obtain ⟨p, q, hA0, hV, rfl, hfz, hnd⟩ := hW
  have hA : DataW.TrodAll enc Tryz.prog W 0 (fun _ => true) true Tryz.f4.params.toList args.toList ds p := hA0
  rw [Tryz.params4] at hA hval
  obtain ⟨v0, vs0, d0, ds0, p0, q0, hargs, rfl, rfl, h0, r0⟩ := trodAll_cons hA
  obtain ⟨rfl, rfl, rfl⟩ := trodAll_nil r0
  obtain rfl : args = #[v0] := by cases args; simp_all
  obtain ⟨rfl, rfl⟩ := trodVars_none hV
  have hk2 := bulk_small hk
  simp only [List.append_nil, Rows.uptoBulkAll] at hk2
  obtain ⟨cs0, rfl, hcz0⟩ := okWide_struct Tryz.underlying25 (hval 0 25 v0 rfl rfl)
  obtain ⟨fuel0, hf0⟩ := h0
  obtain ⟨m0, hm0, hok0⟩ := open_made fuel0 _ _ _ hf0 (by omega)
  have hv0 : Value.agg cs0 = m0.val := by
    obtain ⟨l0⟩ := cs0
    simp [Value.cells] at hm0
    rw [hm0]
    rfl
  rw [hv0] at hW' ⊢

  refine (codecBack_calls m0 W hok0).mono fun e W' ⟨he, hg⟩ => ?_
  subst he
  exact ⟨_, rfl, law_post laidOut rfl 4 rfl Tryz.underlying4 (fun ds h => by
    match ds, h with
    | [_], _ => rfl) (by kernel_rfl) hW' hg⟩

set_option maxRecDepth 100000 in
theorem lifted (os : Os) (started : os.Started) (H : Type) (enc : TypeId × Value → H) (F : Stop.Interp) :
    ReturnsInHanded {} Tryz.checked os 4 .any ((Rows.OpenSpec.upto Rows.codecBackSpec).pre6 enc Tryz.prog Tryz.f4 Rows.codecBackUptoRow.domain false) (((Rows.OpenSpec.upto Rows.codecBackSpec).at F).post enc Tryz.prog Tryz.f4 false true false false) := by
  refine returnsInHanded_of_cond (C := Tryz.checked) (s := Rows.OpenSpec.upto Rows.codecBackSpec) (k := Rows.uptoSmall) rfl own started (by kernel_rfl) Tryz.func4
    (OpenSpec.witness (enc := enc) (C := Tryz.checked) (s := Rows.OpenSpec.upto Rows.codecBackSpec) (k := Rows.uptoSmall) rfl false ⟨#[], #[.agg #[.slice none 0 0, .int .i64 0, .bool false, .slice none 0 0]], []⟩ 8 (by kernel_rfl) (by kernel_rfl) (by kernel_rfl)
      (x := ([.agg [.nil, .lit (.int .i64 0), .lit (.bool false), .nil]], [], [])) (by kernel_rfl) rfl (by kernel_rfl)) ?_
  intro W base args ds gs before hval hW _ hk _
  exact contract H enc W base args ds gs before hval hW hk

theorem proved : Rows.CodecBackUptoSaid :=
  OpenClaim.holds_of_cond 4 Tryz.f4 rfl rfl rfl rfl rfl rfl rfl ⟨rfl, rfl, rfl, rfl, rfl⟩ rfl rfl rfl rfl rfl (by kernel_rfl) Tryz.func4 (by kernel_rfl)
    (of_decide_eq_true (by kernel_rfl)) (by unfold Func.isWrapper; first | (rw [if_pos (by decide +kernel)]; kernel_rfl) | (rw [if_neg (by decide +kernel)]; exact ⟨rfl, rfl⟩))
    (fun os started H enc _ F => lifted os started H enc F)

end Go.Proofs.YthjimnmgbcckjaaGreat.rowCBack
#print axioms Go.Proofs.YthjimnmgbcckjaaGreat.rowCBack.proved
