/- CodecPuts holds: for every input whose bulk is at most 1048576 the law returns true and its arguments read as before. -/
import Derived.Test.YthjimnmgbcckjaaGreatQW
import Derived.Test.YthjimnmgbcckjaaGreatQU
import Derived.Test.YthjimnmgbcckjaaGreatQX
namespace Go.Proofs.YthjimnmgbcckjaaGreat
set_option maxRecDepth 100000
open Go.RowKit Go.Inc Go.Run
attribute [local go_sem] run_store_float

theorem rput_good {w : World} {y base eps : Nat} {E : List Ent} {Ss : List (List Seg)} (hg : Good eps E Ss) (h : IsRef w y base (eps : Nat) E Ss) : Calls Tryz.prog 12 #[.pointer (some ⟨y, 0, none⟩)] w (Made w w.heap.size (encB incW eps E Ss)) :=
  r12Put_calls y base eps E Ss w h hg.codes (by have := hg.len; omega) (by have := hg.high; omega) (by have := hg.size; omega)
set_option maxHeartbeats 8000000 in
theorem codecPuts_calls (m : MadeC) (w : World) (hm : m.Ok w) : Calls Tryz.prog 3 #[m.val] w fun e w' => e = .returned (.bool true) ∧ Fr w w' := by
  have HM := Lib.hid hm
  have BOTH := Lib.hid (fun w' (hf : Fr w w') => cdBoth_calls m w' (hm.fr hf))
  obtain ⟨E, hE⟩ : ∃ E, m.E = E := ⟨_, rfl⟩
  rw [hE] at BOTH
  obtain ⟨A, n, c, eps, own, AU, N, cU, E', Ss, vs⟩ := m
  have HV : Hid ((⟨A, n, c, eps, own, AU, N, cU, E', Ss, vs⟩ : MadeC).val = .agg #[.slice A n c, .int .i64 eps, .bool own, .slice AU N cU]) := rfl
  rw [HV.out] at BOTH ⊢
  have hba := heap_alloc_new w (.cells #[.slice A n c, .int .i64 eps, .bool own, .slice AU N cU] 25)
  obtain ⟨w1, hw1⟩ : ∃ w1, w1 = w.alloc (.cells #[.slice A n c, .int .i64 eps, .bool own, .slice AU N cU] 25) := ⟨_, rfl⟩
  have HF1 : Hid (Fr w w1) := by rw [hw1]; exact (Fr.refl w).alloc _
  rw [← hw1] at hba
  have HX : Hid (∀ w', Fr w1 w' → w'.cell? ⟨w.heap.size, 0, none⟩ = some (.slice A n c) ∧ w'.cell? ⟨w.heap.size, 1, none⟩ = some (.int .i64 eps) ∧ w'.cell? ⟨w.heap.size, 2, none⟩ = some (.bool own) ∧ w'.cell? ⟨w.heap.size, 3, none⟩ = some (.slice AU N cU)) := fun w' h => cells4 (h.blk hba)
  clear hm hba HM HV hE
  go_enter Tryz.func3, Tryz.ntmps3
  go_wp2_with fail
  rw [← hw1]
  clear hw1
  refine (shown12_calls w1).mono ?_
  rintro _ w2 ⟨rfl, hf2⟩
  have HF2 : Hid (Fr w w2) := HF1.out.trans hf2
  obtain ⟨x0, x1, x2, x3⟩ := HX.out w2 hf2
  clear hf2
  go_wp2_with fail
  refine (BOTH.out w2 HF2.out).mono ?_
  rintro _ w3 ⟨hf3, hor⟩
  have HF3 : Hid (Fr w w3) := HF2.out.trans hf3
  clear hf3 x0 x1 x2 x3
  rcases hor with rfl | ⟨x, y, p, base, e0, Ss', rfl, hx, hy, hg⟩
  · go_wp2_with fail
    go_ret
    exact ⟨rfl, HF3.out⟩
  have PUT : Hid (∀ w', Fr w3 w' → Calls Tryz.prog 11 #[.pointer (some ⟨x, 0, none⟩)] w' (Made w' w'.heap.size (encB incW e0 E Ss'))) := fun w' h => put_good hg (hx.fr h)
  have RPUT : Hid (∀ w', Fr w3 w' → Calls Tryz.prog 12 #[.pointer (some ⟨y, 0, none⟩)] w' (Made w' w'.heap.size (encB incW e0 E Ss'))) := fun w' h => rput_good hg (hy.fr h)
  have hsz := hg.size
  have hps := enc_pos (eps := e0) (E := E) (Ss := Ss')
  obtain ⟨B, hB⟩ : ∃ B, encB incW e0 E Ss' = B := ⟨_, rfl⟩
  rw [hB] at PUT RPUT hsz hps
  obtain ⟨L, hL⟩ : ∃ L, B.length = L := ⟨_, rfl⟩
  have HSTR : Hid (∀ w' A' c', RdC w' A' (B.map bv) → (convert 31 9 (.slice A' L c')).run Tryz.prog w' = .ok (.string (bstr B)) w') := fun w' A' c' h => run_str (P := Tryz.prog) 31 5 9 Tryz.underlying31 Tryz.underlying5 Tryz.underlying9 w' A' L c' B hL.symm h
  have PUT2 : Hid (∀ w', Fr w3 w' → Calls Tryz.prog 11 #[.pointer (some ⟨x, 0, none⟩)] w' fun e w'' => ∃ A c, e = .returned (.slice A L c) ∧ Own w'' w'.heap.size 5 1 A L c (B.map bv) ∧ Fr w' w'') := fun w' h => by have := PUT.out w' h; unfold Made at this; rw [hL] at this; exact this
  have RPUT2 : Hid (∀ w', Fr w3 w' → Calls Tryz.prog 12 #[.pointer (some ⟨y, 0, none⟩)] w' fun e w'' => ∃ A c, e = .returned (.slice A L c) ∧ Own w'' w'.heap.size 5 1 A L c (B.map bv) ∧ Fr w' w'') := fun w' h => by have := RPUT.out w' h; unfold Made at this; rw [hL] at this; exact this
  rw [hL] at hsz hps
  have HLB := Lib.hid hL
  clear hx hy hg hB hL PUT RPUT
  go_wp2_with fail
  refine (PUT2.out w3 (Fr.refl _)).mono ?_
  rintro _ w4 ⟨A4, c4, rfl, ho4, hf4⟩
  have HO4 := Lib.hid ho4
  have HF34 := Lib.hid hf4
  clear ho4 hf4
  go_wp2_with fail
  refine (RPUT2.out w4 HF34.out).mono ?_
  rintro _ w5 ⟨A5, c5, rfl, ho5, hf5⟩
  have HF35 : Hid (Fr w3 w5) := HF34.out.trans hf5
  have HO45 : Hid (Own w5 w3.heap.size 5 1 A4 L c4 (B.map bv)) := HO4.out.fr hf5
  have HO5 := Lib.hid ho5
  have HA4 : Hid (∀ k, ablk A4 = some k → k < w4.heap.size) := fun k hk => (HO4.out.lt k hk).2
  have s1 := HSTR.out w5 A4 c4 HO45.out.rd
  have s2 := HSTR.out w5 A5 c5 ho5.rd
  clear ho5 hf5
  go_wp2_with fail
  clear s1 s2
  go_loopw [9] (fun v wr => ∃ i : Nat, v = .int .i64 i ∧ i ≤ L ∧ Hid (∃ xs, Own wr w3.heap.size 5 1 A4 L c4 xs) ∧ Hid (Mv (fun k => ablk A4 = some k) w5 wr)) (fun v _ => L - (intOf v).toNat)
  case atStart => exact ⟨0, rfl, by omega, ⟨_, HO45.out⟩, Mv.refl _ _⟩
  case round =>
    obtain ⟨i, rfl, hiL, hown, hmv⟩ := hrel
    obtain ⟨xs, hox⟩ := hown.out
    have HOX := Lib.hid hox
    clear hox
    rcases Nat.lt_or_ge i L with hlt | hge
    · have d1 : decide (i < L) = true := decide_eq_true hlt
      have d2 : (i : Int) < (L : Int) := by omega
      have wi : IntKind.i64.wrap ((i : Int) + 1) = (i : Int) + 1 := wrap_i64_in _ (by omega) (by omega)
      obtain ⟨bb, hbb⟩ := own_some HOX.out (by omega)
      subst hbb
      obtain ⟨⟨u, hu⟩, hz⟩ := own_cells HOX.out i (by omega)
      go_wp2_with fail
      obtain ⟨xs', hox'⟩ := Own.set HOX.out bb i (.int .u8 5)
      exact ⟨⟨i + 1, rfl, by omega, ⟨xs', hox'⟩, hmv.out.set (p := ⟨bb, i, none⟩) (.inl rfl) _⟩, by simp only [intOf]; omega⟩
    · obtain rfl : i = L := by omega
      have d1 : decide (i < i) = false := by simp
      have HR5 : Hid (RdC wr A5 (B.map bv)) := HO5.out.rd.mv hmv.out (fun k hk h => by have := HA4.out k h; have := (HO5.out.lt k hk).1; omega)
      have HF6 : Hid (Fr w3 wr) := HF35.out.mv hmv.out (fun k hk => (HO4.out.lt k hk).1)
      obtain ⟨w6, hw6⟩ : ∃ w6, w6 = wr := ⟨_, rfl⟩
      subst hw6
      clear hmv hown
      go_wp2_with (at_builtin; refine gate ?_)
      refine gate_app rfl _ _ 31 rfl 5 (.int .u8 0) 1 1 Tryz.underlying31 info_u8 rfl (by omega) (by omega) w3.heap.size A4 i c4 xs (some ⟨w6.heap.size, 0, none⟩) 3 3 [bv 1, bv 2, bv 3] (by rfl) (by rfl)
        (HOX.out.fr ((Fr.refl w6).alloc _)) rfl (RdC.blk (Blk.new w6 _ _)) (bv_one [1, 2, 3]) (by omega) (by have := HF6.out.size; simp; omega) ?_
      intro A7 c7 w7 hown7 hgr7 hat7
      have hm7 : Mv (fun k => ablk A4 = some k) w6 w7 := ((Mv.of_fr ((Fr.refl w6).alloc _)).grown hgr7.out (fun j hj => .inl hj))
      have HR7 : Hid (RdC w7 A5 (B.map bv)) := HR5.out.mv hm7 (fun k hk h => by have := HA4.out k h; have := (HO5.out.lt k hk).1; omega)
      have HF7 : Hid (Fr w3 w7) := HF6.out.mv hm7 (fun k hk => (HO4.out.lt k hk).1)
      clear hown7 hgr7 hat7 hm7
      go_wp2_with fail
      refine (PUT2.out w7 HF7.out).mono ?_
      rintro _ w8 ⟨A8, c8, rfl, ho8, hf8⟩
      have HF8 : Hid (Fr w w8) := HF3.out.trans (HF7.out.trans hf8)
      have s1 := HSTR.out w8 A8 c8 ho8.rd
      have s2 := HSTR.out w8 A5 c5 (HR7.out.fr hf8)
      have w3' : IntKind.i64.wrap ((i : Int) + 3) = (i : Int) + 3 := wrap_i64_in _ (by omega) (by omega)
      clear ho8 hf8
      go_wp2_with fail
      go_ret
      exact ⟨rfl, HF8.out⟩
end Go.Proofs.YthjimnmgbcckjaaGreat
namespace Go.Proofs.YthjimnmgbcckjaaGreat.rowCPuts
open Go.ChangeShapes Go.WideShapes Go.ChangeAt Go.RowKit Go.Inc

open Go.Run
open Go.Proofs.YthjimnmgbcckjaaGreat

set_option maxRecDepth 100000 in
theorem contract (H : Type) (enc : TypeId × Value → H) (W : World) (base : Nat) (args : Array Value) (ds gs : List (DataW H)) (before : List MemPlace)
    (hval : ∀ (j : Nat) t v, Tryz.f3.params[j]? = some t → args[j]? = some v → Value.okWide Tryz.prog W .any base t v)
    (hW : DataW.Whole enc Tryz.prog Tryz.f3.params.toList Rows.codecPutsSpec.vars false W args.toList ds gs before) (hk : Rows.uptoSmall H (ds ++ gs) = true) :
    Calls Tryz.prog 3 args W fun e W' => ∃ v, e = .returned v ∧ Rows.codecPutsSpec.post enc Tryz.prog Tryz.f3 false true false false W args v W' := by
  have hW' := hW
  obtain ⟨p, q, hA0, hV, rfl, hfz, hnd⟩ := hW
  have hA : DataW.TrodAll enc Tryz.prog W 0 (fun _ => true) true Tryz.f3.params.toList args.toList ds p := hA0
  rw [Tryz.params3] at hA hval
  obtain ⟨v0, vs0, d0, ds0, p0, q0, hargs, rfl, rfl, h0, r0⟩ := trodAll_cons hA
  obtain ⟨rfl, rfl, rfl⟩ := trodAll_nil r0
  obtain rfl : args = #[v0] := by cases args; simp_all
  obtain ⟨rfl, rfl⟩ := trodVars_none hV
  have hk2 := bulk_small hk
  simp only [List.append_nil, Rows.uptoBulkAll] at hk2
  obtain ⟨cs0, rfl, hcz0⟩ := okWide_struct Tryz.underlying25 (hval 0 25 v0 rfl rfl)
  obtain ⟨fuel0, hf0⟩ := h0
  obtain ⟨m0, hm0, hok0⟩ := open_made fuel0 _ _ _ hf0 (by omega)
  have hv0 : Value.agg cs0 = m0.val := by
    obtain ⟨l0⟩ := cs0
    simp [Value.cells] at hm0
    rw [hm0]
    rfl
  rw [hv0] at hW' ⊢

  refine (codecPuts_calls m0 W hok0).mono fun e W' ⟨he, hg⟩ => ?_
  subst he
  exact ⟨_, rfl, law_post laidOut rfl 4 rfl Tryz.underlying4 (fun ds h => by
    match ds, h with
    | [_], _ => rfl) (by kernel_rfl) hW' hg⟩

set_option maxRecDepth 100000 in
theorem lifted (os : Os) (started : os.Started) (H : Type) (enc : TypeId × Value → H) (F : Stop.Interp) :
    ReturnsInHanded {} Tryz.checked os 3 .any ((Rows.OpenSpec.upto Rows.codecPutsSpec).pre6 enc Tryz.prog Tryz.f3 Rows.codecPutsUptoRow.domain false) (((Rows.OpenSpec.upto Rows.codecPutsSpec).at F).post enc Tryz.prog Tryz.f3 false true false false) := by
  refine returnsInHanded_of_cond (C := Tryz.checked) (s := Rows.OpenSpec.upto Rows.codecPutsSpec) (k := Rows.uptoSmall) rfl own started (by kernel_rfl) Tryz.func3
    (OpenSpec.witness (enc := enc) (C := Tryz.checked) (s := Rows.OpenSpec.upto Rows.codecPutsSpec) (k := Rows.uptoSmall) rfl false ⟨#[], #[.agg #[.slice none 0 0, .int .i64 0, .bool false, .slice none 0 0]], []⟩ 8 (by kernel_rfl) (by kernel_rfl) (by kernel_rfl)
      (x := ([.agg [.nil, .lit (.int .i64 0), .lit (.bool false), .nil]], [], [])) (by kernel_rfl) rfl (by kernel_rfl)) ?_
  intro W base args ds gs before hval hW _ hk _
  exact contract H enc W base args ds gs before hval hW hk

theorem proved : Rows.CodecPutsUptoSaid :=
  OpenClaim.holds_of_cond 3 Tryz.f3 rfl rfl rfl rfl rfl rfl rfl ⟨rfl, rfl, rfl, rfl, rfl⟩ rfl rfl rfl rfl rfl (by kernel_rfl) Tryz.func3 (by kernel_rfl)
    (of_decide_eq_true (by kernel_rfl)) (by unfold Func.isWrapper; first | (rw [if_pos (by decide +kernel)]; kernel_rfl) | (rw [if_neg (by decide +kernel)]; exact ⟨rfl, rfl⟩))
    (fun os started H enc _ F => lifted os started H enc F)

end Go.Proofs.YthjimnmgbcckjaaGreat.rowCPuts
#print axioms Go.Proofs.YthjimnmgbcckjaaGreat.rowCPuts.proved
