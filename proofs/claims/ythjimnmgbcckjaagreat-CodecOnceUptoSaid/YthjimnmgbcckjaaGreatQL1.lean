/- CodecOnce holds: for every input whose bulk is at most 1048576 the law returns true and its arguments read as before. -/
import Derived.Test.YthjimnmgbcckjaaGreatQS
import Derived.Test.YthjimnmgbcckjaaGreatQQ
import Derived.Test.YthjimnmgbcckjaaGreatQT
namespace Go.Proofs.YthjimnmgbcckjaaGreat
set_option maxRecDepth 100000
open Go.RowKit Go.Inc Go.Run
attribute [local go_sem] run_store_float

theorem rget_some (A : Option Addr) (n c : Nat) (bs : List UInt8) (hn : n = bs.length) (hb : bs.length ≤ 2147483648) (w : World) (hr : RdC w A (bs.map bv)) {eps : Nat} {E : List Ent} {Ss : List (List Seg)} (hg : getB (bstr bs) = some (eps, E, Ss)) :
    Calls Tryz.prog 18 #[.slice A n c] w fun e w' => Fr w w' ∧ ∃ x base, e = .returned (.tuple #[.pointer (some ⟨x, 0, none⟩), .int .i64 0]) ∧ w.heap.size ≤ base ∧ IsRef w' x base (eps : Nat) E Ss := by
  refine (r12Get_calls A n c bs hn hb w hr).mono fun e w' h => ?_
  unfold RGetOut at h
  rw [hg] at h
  exact h
theorem rget_none (A : Option Addr) (n c : Nat) (bs : List UInt8) (hn : n = bs.length) (hb : bs.length ≤ 2147483648) (w : World) (hr : RdC w A (bs.map bv)) (hg : getB (bstr bs) = none) :
    Calls Tryz.prog 18 #[.slice A n c] w fun e w' => Fr w w' ∧ e = .returned (.tuple #[.pointer none, .int .i64 120]) := by
  refine (r12Get_calls A n c bs hn hb w hr).mono fun e w' h => ?_
  unfold RGetOut at h
  rw [hg] at h
  exact h
/-- Put of a run that was read. -/
theorem put_back {w : World} {r base : Nat} {bs : List UInt8} {eps : Nat} {E : List Ent} {Ss : List (List Seg)} (hg : getB (bstr bs) = some (eps, E, Ss)) (hb : bs.length ≤ 2147483648) (h : IsRun w r base (eps : Nat) E Ss) :
    Calls Tryz.prog 11 #[.pointer (some ⟨r, 0, none⟩)] w (Made w w.heap.size bs) := by
  obtain ⟨hc, hbs, he, hV, hk⟩ := getB_back hg
  obtain ⟨s1, s2, s3⟩ := enc_small (eps := eps) (E := E) (Ss := Ss)
  rw [← hbs] at s1 s2 s3
  obtain ⟨p, hp⟩ := h.toR
  rw [hbs] at hb ⊢
  exact cdPut_calls r p eps E Ss w hp hc (by rw [hbs] at s1; omega) (by rw [hbs] at s2; omega) (fun S hS => by have := s3 S hS; rw [hbs] at this; omega) (by omega)

set_option maxHeartbeats 8000000 in
theorem codecOnce_calls (A : Option Addr) (n c : Nat) (bs : List UInt8) (w : World) (hn : n = bs.length) (hc : n ≤ c) (hb : bs.length ≤ 1048576) (hr : RdC w A (bs.map bv)) :
    Calls Tryz.prog 5 #[.slice A n c] w fun e w' => e = .returned (.bool true) ∧ Fr w w' := by
  have HR := Lib.hid hr
  have HN := Lib.hid hn
  have hnl : n ≤ 1048576 := by omega
  have HBL := Lib.hid hb
  clear hr hn hb
  cases hg : getB (bstr bs) with
  | none =>
    have GET : Hid (∀ w', Fr w w' → Calls Tryz.prog 13 #[.slice A n c] w' fun e w'' => Fr w' w'' ∧ e = .returned (.tuple #[.pointer none, .int .i64 120])) := fun w' hf => get_none A n c bs HN.out (by have := HBL.out; omega) w' (HR.out.fr hf) hg
    have RGET : Hid (∀ w', Fr w w' → Calls Tryz.prog 18 #[.slice A n c] w' fun e w'' => Fr w' w'' ∧ e = .returned (.tuple #[.pointer none, .int .i64 120])) := fun w' hf => rget_none A n c bs HN.out (by have := HBL.out; omega) w' (HR.out.fr hf) hg
    clear hg
    go_enter Tryz.func5, Tryz.ntmps5
    go_wp2_with fail
    refine (shown12_calls w).mono ?_
    rintro _ w1 ⟨rfl, hf1⟩
    have HF1 := Lib.hid hf1
    clear hf1
    go_wp2_with fail
    refine (GET.out w1 HF1.out).mono ?_
    rintro _ w2 ⟨hf2, rfl⟩
    have HF2 : Hid (Fr w w2) := HF1.out.trans hf2
    clear hf2
    go_wp2_with fail
    refine (RGET.out w2 HF2.out).mono ?_
    rintro _ w3 ⟨hf3, rfl⟩
    have HF3 : Hid (Fr w w3) := HF2.out.trans hf3
    clear hf3
    go_wp2_with fail
    go_ret
    exact ⟨rfl, HF3.out⟩
  | some x =>
    obtain ⟨eps, E, Ss⟩ := x
    have hpos : 0 < n := by
      obtain ⟨_, h2, _⟩ := getB_back hg
      rw [HN.out, h2]; unfold encB incW; simp
    have GET : Hid (∀ w', Fr w w' → Calls Tryz.prog 13 #[.slice A n c] w' fun e w'' => Fr w' w'' ∧ ∃ r base, e = .returned (.tuple #[.pointer (some ⟨r, 0, none⟩), .int .i64 0]) ∧ w'.heap.size ≤ base ∧ IsRun w'' r base (eps : Nat) E Ss) := fun w' hf => get_some A n c bs HN.out (by have := HBL.out; omega) w' (HR.out.fr hf) hg
    have RGET : Hid (∀ w', Fr w w' → Calls Tryz.prog 18 #[.slice A n c] w' fun e w'' => Fr w' w'' ∧ ∃ x, e = .returned (.tuple #[.pointer (some ⟨x, 0, none⟩), .int .i64 0])) := fun w' hf => (rget_some A n c bs HN.out (by have := HBL.out; omega) w' (HR.out.fr hf) hg).mono fun e w'' ⟨h1, x, _, h2, _⟩ => ⟨h1, x, h2⟩
    have PUT : Hid (∀ w' r base, IsRun w' r base (eps : Nat) E Ss → Calls Tryz.prog 11 #[.pointer (some ⟨r, 0, none⟩)] w' (Made w' w'.heap.size bs)) := fun w' r base h => put_back hg (by have := HBL.out; omega) h
    have LONG : Hid (∀ w' A' c', RdC w' A' ((bs ++ [0]).map bv) → Calls Tryz.prog 13 #[.slice A' (n + 1) c'] w' fun e w'' => Fr w' w'' ∧ e = .returned (.tuple #[.pointer none, .int .i64 120])) := fun w' A' c' h =>
      get_none A' (n + 1) c' (bs ++ [0]) (by rw [List.length_append, HN.out]; rfl) (by rw [List.length_append]; have := HBL.out; simp; omega) w' h (getB_long hg (List.prefix_append _ _) (by simp))
    have SHORT : Hid (∀ w' A' c', RdC w' A' ((bs.take (n - 1)).map bv) → Calls Tryz.prog 13 #[.slice A' (n - 1) c'] w' fun e w'' => Fr w' w'' ∧ e = .returned (.tuple #[.pointer none, .int .i64 120])) := fun w' A' c' h =>
      get_none A' (n - 1) c' (bs.take (n - 1)) (by rw [List.length_take, ← HN.out]; omega) (by rw [List.length_take]; have := HBL.out; omega) w' h (getB_short hg (List.take_prefix _ _) (by rw [List.length_take, ← HN.out]; omega))
    obtain ⟨A5, hcut, hab, hrdc⟩ := run_cut_h (P := Tryz.prog) 31 5 1 Tryz.underlying31 size_u8 A n c (n - 1) ((n : Int) - 1) (by omega) (by omega) .i64
    have HRC : Hid (∀ w', Fr w w' → RdC w' A5 ((bs.take (n - 1)).map bv)) := fun w' hf => by
      rw [List.map_take]; exact (hrdc w' _ (HR.out.fr hf)).take (n - 1)
    have wsub : IntKind.i64.wrap ((n : Int) - 1) = (n : Int) - 1 := wrap_i64_in _ (by omega) (by omega)
    have HSTR : Hid (∀ w', Fr w w' → (convert 31 9 (.slice A n c)).run Tryz.prog w' = .ok (.string (bstr bs)) w') := fun w' hf => run_str (P := Tryz.prog) 31 5 9 Tryz.underlying31 Tryz.underlying5 Tryz.underlying9 w' A n c bs HN.out (HR.out.fr hf)
    have HSTR2 : Hid (∀ w' A' c', RdC w' A' (bs.map bv) → (convert 31 9 (.slice A' bs.length c')).run Tryz.prog w' = .ok (.string (bstr bs)) w') := fun w' A' c' h => run_str (P := Tryz.prog) 31 5 9 Tryz.underlying31 Tryz.underlying5 Tryz.underlying9 w' A' bs.length c' bs rfl h
    clear hg hrdc hab
    go_enter Tryz.func5, Tryz.ntmps5
    go_wp2_with fail
    refine (shown12_calls w).mono ?_
    rintro _ w1 ⟨rfl, hf1⟩
    have HF1 := Lib.hid hf1
    clear hf1
    go_wp2_with fail
    refine (GET.out w1 HF1.out).mono ?_
    rintro _ w2 ⟨hf2, r, base, rfl, _, hrun⟩
    have HF2 : Hid (Fr w w2) := HF1.out.trans hf2
    have HRUN := Lib.hid hrun
    clear hf2 hrun
    go_wp2_with fail
    refine (RGET.out w2 HF2.out).mono ?_
    rintro _ w3 ⟨hf3, x, rfl⟩
    have HF3 : Hid (Fr w w3) := HF2.out.trans hf3
    have P3 := Lib.hid (PUT.out w3 r base (HRUN.out.fr hf3))
    clear hf3
    go_wp2_with fail
    refine P3.out.mono ?_
    rintro _ w4 ⟨A4, c4, rfl, ho4, hf4⟩
    have HR4 : Hid (RdC w4 A4 (bs.map bv)) := ho4.rd
    have HF4 : Hid (Fr w w4) := HF3.out.trans hf4
    clear ho4 hf4 P3
    go_wp2_with (at_builtin; refine gate ?_)
    refine gate_app rfl _ _ 31 rfl 5 (.int .u8 0) 1 1 Tryz.underlying31 info_u8 rfl (by omega) (by omega) w4.heap.size (some ⟨w4.heap.size, 0, none⟩) 0 0 [] A n c (bs.map bv) (by rfl) (by rfl)
      (Own.of_blk (Blk.new w4 [] _) (Nat.le_refl _) rfl (by omega)) (by rw [List.length_map, Nat.mul_one]; exact HN.out.symm) (HR.out.fr (HF4.out.alloc _)) (bv_one bs) (by omega) (by simp) ?_
    intro A6 c6 w6 hown6 hgr6 hat6
    have hm6 : Mv (fun k => k = w4.heap.size) w4 w6 := ((Mv.of_fr ((Fr.refl w4).alloc _)).grown hgr6.out (fun k hk => .inl (by simp [ablk] at hk; exact hk.symm)))
    have HF46 : Hid (Fr w4 w6) := hm6.fr (fun k hk => by rw [show k = w4.heap.size from hk]; exact Nat.le_refl _)
    have HF6 : Hid (Fr w w6) := HF4.out.trans HF46.out
    have HO6 : Hid (Own w6 w4.heap.size 5 1 A6 n c6 (bs.map bv)) := by have := hown6.out; rw [Nat.zero_add, List.nil_append] at this; exact this
    rw [Nat.zero_add]
    clear hown6 hgr6 hat6 hm6
    go_wp2_with (at_builtin; refine gate ?_)
    refine gate_app rfl _ _ 31 rfl 5 (.int .u8 0) 1 1 Tryz.underlying31 info_u8 rfl (by omega) (by omega) w4.heap.size A6 n c6 (bs.map bv) (some ⟨w6.heap.size, 0, none⟩) 1 1 [bv 0] (by rfl) (by rfl)
      (HO6.out.fr ((Fr.refl w6).alloc _)) rfl (RdC.blk (Blk.new w6 _ _)) (bv_one [0]) (by omega) (by have := HF46.out.size; simp; omega) ?_
    intro A7 c7 w7 hown7 hgr7 hat7
    have HF47 : Hid (Fr w4 w7) := (HF46.out.alloc _).grown hgr7.out (fun k hk => (HO6.out.lt k hk).1)
    have HF7 : Hid (Fr w w7) := HF4.out.trans HF47.out
    have HR7 : Hid (RdC w7 A7 ((bs ++ [0]).map bv)) := by have := hown7.out.rd; rw [Hid, List.map_append]; exact this
    have HR47 : Hid (RdC w7 A4 (bs.map bv)) := HR4.out.fr HF47.out
    clear hown7 hgr7 hat7
    go_wp2_with fail
    refine (LONG.out w7 A7 c7 HR7.out).mono ?_
    rintro _ w8 ⟨hf8, rfl⟩
    have HF8 : Hid (Fr w w8) := HF7.out.trans hf8
    have HR8 : Hid (RdC w8 A4 (bs.map bv)) := HR47.out.fr hf8
    clear hf8
    go_wp2_with fail
    refine (SHORT.out w8 A5 c (HRC.out w8 HF8.out)).mono ?_
    rintro _ w9 ⟨hf9, rfl⟩
    have HF9 : Hid (Fr w w9) := HF8.out.trans hf9
    have s1 := HSTR.out w9 HF9.out
    have s2 := HSTR2.out w9 A4 c4 (HR8.out.fr hf9)
    clear hf9
    go_wp2_with fail
    go_ret
    exact ⟨rfl, HF9.out⟩
end Go.Proofs.YthjimnmgbcckjaaGreat
namespace Go.Proofs.YthjimnmgbcckjaaGreat.rowOnce
open Go.ChangeShapes Go.WideShapes Go.ChangeAt Go.RowKit Go.Inc

open Go.Run

set_option maxRecDepth 100000 in
theorem contract (H : Type) (enc : TypeId × Value → H) (W : World) (base : Nat) (args : Array Value) (ds gs : List (DataW H)) (before : List MemPlace)
    (hval : ∀ (j : Nat) t v, Tryz.f5.params[j]? = some t → args[j]? = some v → Value.okWide Tryz.prog W .any base t v)
    (hW : DataW.Whole enc Tryz.prog Tryz.f5.params.toList Rows.codecOnceSpec.vars false W args.toList ds gs before) (hk : Rows.uptoSmall H (ds ++ gs) = true) :
    Calls Tryz.prog 5 args W fun e W' => ∃ v, e = .returned v ∧ Rows.codecOnceSpec.post enc Tryz.prog Tryz.f5 false true false false W args v W' := by
  have hW' := hW
  obtain ⟨p, q, hA0, hV, rfl, hfz, hnd⟩ := hW
  have hA : DataW.TrodAll enc Tryz.prog W 0 (fun _ => true) true Tryz.f5.params.toList args.toList ds p := hA0
  rw [Tryz.params5] at hA hval
  obtain ⟨v0, vs0, d0, ds0, p0, q0, hargs, rfl, rfl, h0, r0⟩ := trodAll_cons hA
  obtain ⟨rfl, rfl, rfl⟩ := trodAll_nil r0
  obtain rfl : args = #[v0] := by cases args; simp_all
  obtain ⟨rfl, rfl⟩ := trodVars_none hV
  have hk2 := bulk_small hk
  simp only [List.append_nil, Rows.uptoBulkAll] at hk2
  obtain ⟨a0, len0, cap0, rfl⟩ := okWide_slice Tryz.underlying31 (hval 0 31 v0 rfl rfl)
  obtain ⟨fuel0, hf0⟩ := h0
  obtain ⟨A0, n0, c0, xs0, hcs0, hn0, hc0, hm0, hrd0, hd0⟩ := open_rows (fun b : UInt8 => [bv b]) (fun _ _ => True) Tryz.underlying31 rfl (by decide) (fun _ => rfl) (el_u8 Tryz.underlying5) hf0
  simp [Value.cells] at hcs0
  obtain ⟨rfl, rfl, rfl⟩ := hcs0
  have hl0 : xs0.length + 1 ≤ Rows.uptoBulk d0 := bulk_rows hd0
  rw [flat_one] at hrd0
  refine (codecOnce_calls a0 len0 cap0 xs0 W hn0 hc0 (by omega) hrd0).mono fun e W' ⟨he, hg⟩ => ?_
  subst he
  exact ⟨_, rfl, law_post laidOut rfl 4 rfl Tryz.underlying4 (fun ds h => by
    match ds, h with
    | [_], _ => rfl) (by kernel_rfl) hW' hg⟩

set_option maxRecDepth 100000 in
theorem lifted (os : Os) (started : os.Started) (H : Type) (enc : TypeId × Value → H) (F : Stop.Interp) :
    ReturnsInHanded {} Tryz.checked os 5 .any ((Rows.OpenSpec.upto Rows.codecOnceSpec).pre6 enc Tryz.prog Tryz.f5 Rows.codecOnceUptoRow.domain false) (((Rows.OpenSpec.upto Rows.codecOnceSpec).at F).post enc Tryz.prog Tryz.f5 false true false false) := by
  refine returnsInHanded_of_cond (C := Tryz.checked) (s := Rows.OpenSpec.upto Rows.codecOnceSpec) (k := Rows.uptoSmall) rfl own started (by kernel_rfl) Tryz.func5
    (OpenSpec.witness (enc := enc) (C := Tryz.checked) (s := Rows.OpenSpec.upto Rows.codecOnceSpec) (k := Rows.uptoSmall) rfl false ⟨#[], #[.slice none 0 0], []⟩ 8 (by kernel_rfl) (by kernel_rfl) (by kernel_rfl)
      (x := ([.nil], [], [])) (by kernel_rfl) rfl (by kernel_rfl)) ?_
  intro W base args ds gs before hval hW _ hk _
  exact contract H enc W base args ds gs before hval hW hk

theorem proved : Rows.CodecOnceUptoSaid :=
  OpenClaim.holds_of_cond 5 Tryz.f5 rfl rfl rfl rfl rfl rfl rfl ⟨rfl, rfl, rfl, rfl, rfl⟩ rfl rfl rfl rfl rfl (by kernel_rfl) Tryz.func5 (by kernel_rfl)
    (of_decide_eq_true (by kernel_rfl)) (by unfold Func.isWrapper; first | (rw [if_pos (by decide +kernel)]; kernel_rfl) | (rw [if_neg (by decide +kernel)]; exact ⟨rfl, rfl⟩))
    (fun os started H enc _ F => lifted os started H enc F)

end Go.Proofs.YthjimnmgbcckjaaGreat.rowOnce
#print axioms Go.Proofs.YthjimnmgbcckjaaGreat.rowOnce.proved
