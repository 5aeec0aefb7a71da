/- CodecCut holds: for every input whose bulk is at most 1048576 the law returns true and its arguments read as before. -/
import Derived.Test.YthjimnmgbcckjaaGreatQW
import Derived.Test.YthjimnmgbcckjaaGreatQX
namespace Go.Proofs.YthjimnmgbcckjaaGreat
set_option maxRecDepth 100000
open Go.RowKit Go.Inc Go.Run
attribute [local go_sem] run_store_float

set_option maxHeartbeats 8000000 in
theorem codecCut_calls (m : MadeC) (cut : Int) (hcut : -9223372036854775808 ≤ cut ∧ cut ≤ 9223372036854775807) (Am : Option Addr) (nm cm : Nat) (ms : List UInt8) (hnm : nm = ms.length) (hml : ms.length ≤ 1048576) (w : World) (hm : m.Ok w) (hrm : RdC w Am (ms.map bv)) : Calls Tryz.prog 6 #[m.val, .int .i64 cut, .slice Am nm cm] w fun e w' => e = .returned (.bool true) ∧ Fr w w' := by
  have BOTH := Lib.hid (fun w' (hf : Fr w w') => cdBoth_calls m w' (hm.fr hf))
  have HNM := Lib.hid hnm
  have HML := Lib.hid hml
  have HRM := Lib.hid hrm
  obtain ⟨E, hE⟩ : ∃ E, m.E = E := ⟨_, rfl⟩
  rw [hE] at BOTH
  obtain ⟨A, n, c, eps, own, AU, N, cU, E', Ss, vs⟩ := m
  have HV : Hid ((⟨A, n, c, eps, own, AU, N, cU, E', Ss, vs⟩ : MadeC).val = .agg #[.slice A n c, .int .i64 eps, .bool own, .slice AU N cU]) := rfl
  rw [HV.out] at BOTH ⊢
  have hba := heap_alloc_new w (.cells #[.slice A n c, .int .i64 eps, .bool own, .slice AU N cU] 25)
  obtain ⟨w1, hw1⟩ : ∃ w1, w1 = w.alloc (.cells #[.slice A n c, .int .i64 eps, .bool own, .slice AU N cU] 25) := ⟨_, rfl⟩
  have HF1 : Hid (Fr w w1) := by rw [hw1]; exact (Fr.refl w).alloc _
  rw [← hw1] at hba
  have HX : Hid (∀ w', Fr w1 w' → w'.cell? ⟨w.heap.size, 0, none⟩ = some (.slice A n c) ∧ w'.cell? ⟨w.heap.size, 1, none⟩ = some (.int .i64 eps) ∧ w'.cell? ⟨w.heap.size, 2, none⟩ = some (.bool own) ∧ w'.cell? ⟨w.heap.size, 3, none⟩ = some (.slice AU N cU)) := fun w' h => cells4 (h.blk hba)
  clear hm hba HV hE hnm hml hrm
  go_enter Tryz.func6, Tryz.ntmps6
  go_wp2_with fail
  rw [← hw1]
  clear hw1
  refine (shown12_calls w1).mono ?_
  rintro _ w2 ⟨rfl, hf2⟩
  have HF2 : Hid (Fr w w2) := HF1.out.trans hf2
  obtain ⟨x0, x1, x2, x3⟩ := HX.out w2 hf2
  clear hf2
  go_wp2_with fail
  refine (BOTH.out w2 HF2.out).mono ?_
  rintro _ w3 ⟨hf3, hor⟩
  have HF3 : Hid (Fr w w3) := HF2.out.trans hf3
  clear hf3 x0 x1 x2 x3
  rcases hor with rfl | ⟨x, y, p, base, e0, Ss', rfl, hx, hy, hg⟩
  · go_wp2_with fail
    go_ret
    exact ⟨rfl, HF3.out⟩
  have hgb : getB (bstr (encB incW e0 E Ss')) = some (e0, E, Ss') := getB_enc hg.codes hg.in64.1 hg.ents hg.chk
  have PUT : Hid (Calls Tryz.prog 11 #[.pointer (some ⟨x, 0, none⟩)] w3 (Made w3 w3.heap.size (encB incW e0 E Ss'))) := put_good hg hx
  have hsz := hg.size
  have hps := enc_pos (eps := e0) (E := E) (Ss := Ss')
  have hszs : (encB incW e0 E Ss').length ≤ 1073741824 := good_small hg
  obtain ⟨B, hB⟩ : ∃ B, encB incW e0 E Ss' = B := ⟨_, rfl⟩
  rw [hB] at PUT hsz hps hgb hszs
  obtain ⟨L, hL⟩ : ∃ L, B.length = L := ⟨_, rfl⟩
  have PUT2 : Hid (Calls Tryz.prog 11 #[.pointer (some ⟨x, 0, none⟩)] w3 fun e w'' => ∃ A c, e = .returned (.slice A L c) ∧ Own w'' w3.heap.size 5 1 A L c (B.map bv) ∧ Fr w3 w'') := by have := PUT.out; unfold Made at this; rw [hL] at this; exact this
  have SHORT : Hid (∀ w' A' c' q, q < L → RdC w' A' ((B.take q).map bv) → Calls Tryz.prog 13 #[.slice A' q c'] w' fun e w'' => Fr w' w'' ∧ e = .returned (.tuple #[.pointer none, .int .i64 120])) := fun w' A' c' q hq h =>
    get_none A' q c' (B.take q) (by rw [List.length_take, hL]; omega) (by rw [List.length_take]; omega) w' h (getB_short hgb (List.take_prefix _ _) (by rw [List.length_take, hL]; omega))
  have LONG : Hid (∀ w' A' c', 0 < nm → RdC w' A' ((B ++ ms).map bv) → Calls Tryz.prog 13 #[.slice A' (L + nm) c'] w' fun e w'' => Fr w' w'' ∧ e = .returned (.tuple #[.pointer none, .int .i64 120])) := fun w' A' c' h0 h =>
    get_none A' (L + nm) c' (B ++ ms) (by rw [List.length_append, hL, HNM.out]) (by rw [List.length_append]; have := HML.out; omega) w' h (getB_long hgb (List.prefix_append _ _) (by rw [List.length_append]; have := HNM.out; omega))
  rw [hL] at hsz hps
  have HLB := Lib.hid hL
  have HNL : Hid (nm ≤ 1048576) := by rw [Hid, HNM.out]; exact HML.out
  obtain ⟨cut2, hcut2⟩ : ∃ c2 : Int, c2 = if cut < 0 then -(cut + 1) else cut := ⟨_, rfl⟩
  obtain ⟨q, hq⟩ : ∃ q : Nat, cut2 % (L : Int) = (q : Int) := ⟨(cut2 % (L : Int)).toNat, by have := Int.emod_nonneg cut2 (show (L : Int) ≠ 0 by omega); omega⟩
  have hqL : q < L := by have := Int.emod_lt_of_pos cut2 (show 0 < (L : Int) by omega); omega
  have hc0 : 0 ≤ cut2 ∧ cut2 ≤ 9223372036854775807 := by rw [hcut2]; split <;> omega
  have HCUT2 := Lib.hid hcut2
  have HQ := Lib.hid hq
  clear hx hy hg hB hL PUT hgb hszs hcut2 hq
  go_wp2_with fail
  refine PUT2.out.mono ?_
  rintro _ w4 ⟨A4, c4, rfl, ho4, hf4⟩
  have HO4 := Lib.hid ho4
  have HF4 : Hid (Fr w w4) := HF3.out.trans hf4
  have hLc := own_le ho4
  obtain ⟨A5, hcutr, hab, hrdc⟩ := run_cut_h (P := Tryz.prog) 31 5 1 Tryz.underlying31 size_u8 A4 L c4 q (q : Int) rfl (by omega) .i64
  have HR5 : Hid (RdC w4 A5 ((B.take q).map bv)) := by rw [Hid, List.map_take]; exact (hrdc w4 _ ho4.rd).take q
  have hL0 : ((L : Int) == 0) = false := by rw [beq_eq_false_iff_ne]; omega
  have hLn : ¬ ((L : Int) = 0) := by omega
  clear ho4 hf4 hrdc hab
  by_cases hneg : cut < 0
  · have d1 : decide (cut < 0) = true := decide_eq_true hneg
    have w1' : IntKind.i64.wrap (cut + 1) = cut + 1 := wrap_i64_in _ (by omega) (by omega)
    have w2' : IntKind.i64.wrap (-(cut + 1)) = -(cut + 1) := wrap_i64_in _ (by omega) (by omega)
    have hq : -(cut + 1).tmod (L : Int) = (q : Int) := by
      have h9 := HQ.out
      rw [HCUT2.out, if_pos hneg] at h9
      have h0 := hc0.1
      rw [HCUT2.out, if_pos hneg] at h0
      rw [← Int.neg_tmod, Int.tmod_eq_emod_of_nonneg h0]; exact h9
    have hq2 : (-(cut + 1)).tmod (L : Int) = (q : Int) := by rw [Int.neg_tmod]; exact hq
    go_wp2_with fail
    refine (SHORT.out w4 A5 c4 q hqL HR5.out).mono ?_
    rintro _ w5 ⟨hf5, rfl⟩
    have HF5 : Hid (Fr w w5) := HF4.out.trans hf5
    have HO5 : Hid (Own w5 w3.heap.size 5 1 A4 L c4 (B.map bv)) := HO4.out.fr hf5
    clear hf5
    by_cases h0 : nm = 0
    · have d9 : ((nm : Int) == 0) = true := by rw [h0]; rfl
      go_wp2_with fail
      go_ret
      exact ⟨rfl, HF5.out⟩
    have d9 : ((nm : Int) == 0) = false := by rw [beq_eq_false_iff_ne]; omega
    have hnl := HNL.out
    go_wp2_with (at_builtin; refine gate ?_)
    refine gate_app rfl _ _ 31 rfl 5 (.int .u8 0) 1 1 Tryz.underlying31 info_u8 rfl (by omega) (by omega) w5.heap.size (some ⟨w5.heap.size, 0, none⟩) 0 0 [] A4 L c4 (B.map bv) (by rfl) (by rfl)
      (Own.of_blk (Blk.new w5 [] _) (Nat.le_refl _) rfl (by omega)) (by rw [List.length_map, Nat.mul_one]; exact HLB.out) (HO5.out.rd.fr ((Fr.refl w5).alloc _)) (bv_one B) (by omega) (by simp) ?_
    intro A6 c6 w6 hown6 hgr6 hat6
    have hm6 : Mv (fun k => k = w5.heap.size) w5 w6 := ((Mv.of_fr ((Fr.refl w5).alloc _)).grown hgr6.out (fun k hk => .inl (by simp [ablk] at hk; exact hk.symm)))
    have HF56 : Hid (Fr w5 w6) := hm6.fr (fun k hk => by rw [show k = w5.heap.size from hk]; exact Nat.le_refl _)
    have HO6 : Hid (Own w6 w5.heap.size 5 1 A6 L c6 (B.map bv)) := by have := hown6.out; rw [Nat.zero_add, List.nil_append] at this; exact this
    rw [Nat.zero_add]
    clear hown6 hgr6 hat6 hm6
    go_wp2_with (at_builtin; refine gate ?_)
    refine gate_app rfl _ _ 31 rfl 5 (.int .u8 0) 1 1 Tryz.underlying31 info_u8 rfl (by omega) (by omega) w5.heap.size A6 L c6 (B.map bv) Am nm cm (ms.map bv) (by rfl) (by rfl)
      HO6.out (by rw [List.length_map, Nat.mul_one]; exact HNM.out.symm) (HRM.out.fr (HF5.out.trans HF56.out)) (bv_one ms) (by omega) (by have := HF56.out.size; omega) ?_
    intro A7 c7 w7 hown7 hgr7 hat7
    have HF57 : Hid (Fr w5 w7) := HF56.out.grown hgr7.out (fun k hk => (HO6.out.lt k hk).1)
    have HF7 : Hid (Fr w w7) := HF5.out.trans HF57.out
    have HR7 : Hid (RdC w7 A7 ((B ++ ms).map bv)) := by have := hown7.out.rd; rw [Hid, List.map_append]; exact this
    clear hown7 hgr7 hat7
    go_wp2_with fail
    refine (LONG.out w7 A7 c7 (by omega) HR7.out).mono ?_
    rintro _ w8 ⟨hf8, rfl⟩
    have HF8 : Hid (Fr w w8) := HF7.out.trans hf8
    clear hf8
    go_wp2_with fail
    go_ret
    exact ⟨rfl, HF8.out⟩
  · have d1 : decide (cut < 0) = false := decide_eq_false hneg
    have hq : cut.tmod (L : Int) = (q : Int) := by
      have h9 := HQ.out
      rw [HCUT2.out, if_neg hneg] at h9
      rw [Int.tmod_eq_emod_of_nonneg (by omega)]; exact h9
    go_wp2_with fail
    refine (SHORT.out w4 A5 c4 q hqL HR5.out).mono ?_
    rintro _ w5 ⟨hf5, rfl⟩
    have HF5 : Hid (Fr w w5) := HF4.out.trans hf5
    have HO5 : Hid (Own w5 w3.heap.size 5 1 A4 L c4 (B.map bv)) := HO4.out.fr hf5
    clear hf5
    by_cases h0 : nm = 0
    · have d9 : ((nm : Int) == 0) = true := by rw [h0]; rfl
      go_wp2_with fail
      go_ret
      exact ⟨rfl, HF5.out⟩
    have d9 : ((nm : Int) == 0) = false := by rw [beq_eq_false_iff_ne]; omega
    have hnl := HNL.out
    go_wp2_with (at_builtin; refine gate ?_)
    refine gate_app rfl _ _ 31 rfl 5 (.int .u8 0) 1 1 Tryz.underlying31 info_u8 rfl (by omega) (by omega) w5.heap.size (some ⟨w5.heap.size, 0, none⟩) 0 0 [] A4 L c4 (B.map bv) (by rfl) (by rfl)
      (Own.of_blk (Blk.new w5 [] _) (Nat.le_refl _) rfl (by omega)) (by rw [List.length_map, Nat.mul_one]; exact HLB.out) (HO5.out.rd.fr ((Fr.refl w5).alloc _)) (bv_one B) (by omega) (by simp) ?_
    intro A6 c6 w6 hown6 hgr6 hat6
    have hm6 : Mv (fun k => k = w5.heap.size) w5 w6 := ((Mv.of_fr ((Fr.refl w5).alloc _)).grown hgr6.out (fun k hk => .inl (by simp [ablk] at hk; exact hk.symm)))
    have HF56 : Hid (Fr w5 w6) := hm6.fr (fun k hk => by rw [show k = w5.heap.size from hk]; exact Nat.le_refl _)
    have HO6 : Hid (Own w6 w5.heap.size 5 1 A6 L c6 (B.map bv)) := by have := hown6.out; rw [Nat.zero_add, List.nil_append] at this; exact this
    rw [Nat.zero_add]
    clear hown6 hgr6 hat6 hm6
    go_wp2_with (at_builtin; refine gate ?_)
    refine gate_app rfl _ _ 31 rfl 5 (.int .u8 0) 1 1 Tryz.underlying31 info_u8 rfl (by omega) (by omega) w5.heap.size A6 L c6 (B.map bv) Am nm cm (ms.map bv) (by rfl) (by rfl)
      HO6.out (by rw [List.length_map, Nat.mul_one]; exact HNM.out.symm) (HRM.out.fr (HF5.out.trans HF56.out)) (bv_one ms) (by omega) (by have := HF56.out.size; omega) ?_
    intro A7 c7 w7 hown7 hgr7 hat7
    have HF57 : Hid (Fr w5 w7) := HF56.out.grown hgr7.out (fun k hk => (HO6.out.lt k hk).1)
    have HF7 : Hid (Fr w w7) := HF5.out.trans HF57.out
    have HR7 : Hid (RdC w7 A7 ((B ++ ms).map bv)) := by have := hown7.out.rd; rw [Hid, List.map_append]; exact this
    clear hown7 hgr7 hat7
    go_wp2_with fail
    refine (LONG.out w7 A7 c7 (by omega) HR7.out).mono ?_
    rintro _ w8 ⟨hf8, rfl⟩
    have HF8 : Hid (Fr w w8) := HF7.out.trans hf8
    clear hf8
    go_wp2_with fail
    go_ret
    exact ⟨rfl, HF8.out⟩
end Go.Proofs.YthjimnmgbcckjaaGreat
namespace Go.Proofs.YthjimnmgbcckjaaGreat.rowCCut
open Go.ChangeShapes Go.WideShapes Go.ChangeAt Go.RowKit Go.Inc

open Go.Run
open Go.Proofs.YthjimnmgbcckjaaGreat
set_option maxHeartbeats 1000000 in
set_option maxRecDepth 100000 in
theorem contract (H : Type) (enc : TypeId × Value → H) (W : World) (base : Nat) (args : Array Value) (ds gs : List (DataW H)) (before : List MemPlace)
    (hval : ∀ (j : Nat) t v, Tryz.f6.params[j]? = some t → args[j]? = some v → Value.okWide Tryz.prog W .any base t v)
    (hW : DataW.Whole enc Tryz.prog Tryz.f6.params.toList Rows.codecCutSpec.vars false W args.toList ds gs before) (hk : Rows.uptoSmall H (ds ++ gs) = true) :
    Calls Tryz.prog 6 args W fun e W' => ∃ v, e = .returned v ∧ Rows.codecCutSpec.post enc Tryz.prog Tryz.f6 false true false false W args v W' := by
  have hW' := hW
  obtain ⟨p, q, hA0, hV, rfl, hfz, hnd⟩ := hW
  have hA : DataW.TrodAll enc Tryz.prog W 0 (fun _ => true) true Tryz.f6.params.toList args.toList ds p := hA0
  rw [Tryz.params6] at hA hval
  obtain ⟨v0, vs0, d0, ds0, p0, q0, hargs, rfl, rfl, h0, r0⟩ := trodAll_cons hA
  obtain ⟨v1, vs1, d1, ds1, p1, q1, rfl, rfl, rfl, h1, r1⟩ := trodAll_cons r0
  obtain ⟨v2, vs2, d2, ds2, p2, q2, rfl, rfl, rfl, h2, r2⟩ := trodAll_cons r1
  obtain ⟨rfl, rfl, rfl⟩ := trodAll_nil r2
  obtain rfl : args = #[v0, v1, v2] := by cases args; simp_all
  obtain ⟨rfl, rfl⟩ := trodVars_none hV
  have hk2 := bulk_small hk
  simp only [List.append_nil, Rows.uptoBulkAll] at hk2
  obtain ⟨cs0, rfl, hcz0⟩ := okWide_struct Tryz.underlying25 (hval 0 25 v0 rfl rfl)
  obtain ⟨fuel0, hf0⟩ := h0
  obtain ⟨m0, hm0, hok0⟩ := open_made fuel0 _ _ _ hf0 (by omega)
  have hv0 : Value.agg cs0 = m0.val := by
    obtain ⟨l0⟩ := cs0
    simp [Value.cells] at hm0
    rw [hm0]
    rfl
  rw [hv0] at hW' ⊢
  obtain ⟨x1, rfl, rfl, rfl, w1⟩ := open_int Tryz.underlying3 (hval 1 3 v1 rfl rfl) h1
  have b1 : -9223372036854775808 ≤ x1 ∧ x1 ≤ 9223372036854775807 := by simpa [Lit.wf, IntKind.min, IntKind.max, IntKind.signed, IntKind.bits] using w1
  obtain ⟨a2, len2, cap2, rfl⟩ := okWide_slice Tryz.underlying31 (hval 2 31 v2 rfl rfl)
  obtain ⟨fuel2, hf2⟩ := h2
  obtain ⟨A2, n2, c2, xs2, hcs2, hn2, hc2, hm2, hrd2, hd2⟩ := open_rows (fun b : UInt8 => [bv b]) (fun _ _ => True) Tryz.underlying31 rfl (by decide) (fun _ => rfl) (el_u8 Tryz.underlying5) hf2
  simp [Value.cells] at hcs2
  obtain ⟨rfl, rfl, rfl⟩ := hcs2
  have hl2 : xs2.length + 1 ≤ Rows.uptoBulk d2 := bulk_rows hd2
  rw [flat_one] at hrd2
  refine (codecCut_calls m0 x1 b1 a2 len2 cap2 xs2 hn2 (by omega) W hok0 hrd2).mono fun e W' ⟨he, hg⟩ => ?_
  subst he
  exact ⟨_, rfl, law_post laidOut rfl 4 rfl Tryz.underlying4 (fun ds h => by
    match ds, h with
    | [_, _, _], _ => rfl) (by kernel_rfl) hW' hg⟩

set_option maxRecDepth 100000 in
theorem lifted (os : Os) (started : os.Started) (H : Type) (enc : TypeId × Value → H) (F : Stop.Interp) :
    ReturnsInHanded {} Tryz.checked os 6 .any ((Rows.OpenSpec.upto Rows.codecCutSpec).pre6 enc Tryz.prog Tryz.f6 Rows.codecCutUptoRow.domain false) (((Rows.OpenSpec.upto Rows.codecCutSpec).at F).post enc Tryz.prog Tryz.f6 false true false false) := by
  refine returnsInHanded_of_cond (C := Tryz.checked) (s := Rows.OpenSpec.upto Rows.codecCutSpec) (k := Rows.uptoSmall) rfl own started (by kernel_rfl) Tryz.func6
    (OpenSpec.witness (enc := enc) (C := Tryz.checked) (s := Rows.OpenSpec.upto Rows.codecCutSpec) (k := Rows.uptoSmall) rfl false ⟨#[], #[.agg #[.slice none 0 0, .int .i64 0, .bool false, .slice none 0 0], .int .i64 0, .slice none 0 0], []⟩ 8 (by kernel_rfl) (by kernel_rfl) (by kernel_rfl)
      (x := ([.agg [.nil, .lit (.int .i64 0), .lit (.bool false), .nil], .lit (.int .i64 0), .nil], [], [])) (by kernel_rfl) rfl (by kernel_rfl)) ?_
  intro W base args ds gs before hval hW _ hk _
  exact contract H enc W base args ds gs before hval hW hk

theorem proved : Rows.CodecCutUptoSaid :=
  OpenClaim.holds_of_cond 6 Tryz.f6 rfl rfl rfl rfl rfl rfl rfl ⟨rfl, rfl, rfl, rfl, rfl⟩ rfl rfl rfl rfl rfl (by kernel_rfl) Tryz.func6 (by kernel_rfl)
    (of_decide_eq_true (by kernel_rfl)) (by unfold Func.isWrapper; first | (rw [if_pos (by decide +kernel)]; kernel_rfl) | (rw [if_neg (by decide +kernel)]; exact ⟨rfl, rfl⟩))
    (fun os started H enc _ F => lifted os started H enc F)

end Go.Proofs.YthjimnmgbcckjaaGreat.rowCCut
#print axioms Go.Proofs.YthjimnmgbcckjaaGreat.rowCCut.proved
