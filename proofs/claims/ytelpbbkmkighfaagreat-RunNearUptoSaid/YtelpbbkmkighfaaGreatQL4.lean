/- RunNear holds: for every input whose bulk is at most 1048576 the law returns true and its arguments read as before. -/
import Derived.Test.YtelpbbkmkighfaaGreatQQ
import Derived.Test.YtelpbbkmkighfaaGreatQO
import Derived.Test.YtelpbbkmkighfaaGreatQR
namespace Go.Proofs.YtelpbbkmkighfaaGreat
set_option maxRecDepth 100000
open Go.RowKit Go.Inc Go.Run
attribute [local go_sem] run_store_float

set_option maxHeartbeats 4000000 in
theorem runNear_calls (E : List Ent) (A : Option Addr) (n c : Nat) (eps : Int) (Av : Option Addr) (N cv : Nat) (vs : List Value) (Ss : List (List Seg)) (Q : List Int) (B : Option Addr) (m c' : Nat) (hm : m = Q.length) (hml : m ≤ 268435456) (hQ : KeysOk Q) (hn : n = E.length) (hc : n ≤ c) (hl : n ≤ 268435456) (hE : ∀ e ∈ E, EntOk e) (hN : N = Ss.length) (hNl : N ≤ 268435456)
    (hS : ∀ S ∈ Ss, S.length ≤ 268435456 ∧ ∀ s ∈ S, SegFit s) (w : World) (hr : RdC w A (E.flatMap encells)) (hrv : RdC w Av vs) (hrows : RowsR w vs Ss) (hrq : RdC w B (Q.map uv)) :
    Calls Tryz.prog 6 #[.slice A n c, .int .i64 eps, .slice Av N cv, .slice B m c'] w fun e w' => e = .returned (.bool true) ∧ Fr w w' := by
  have HN := Lib.hid hn
  have HRQ := Lib.hid hrq
  have HQ := Lib.hid hQ
  have HM := Lib.hid hm
  have OF : Hid (∀ w', Fr w w' → Calls Tryz.prog 17 #[.slice A n c, .int .i64 eps, .slice Av N cv] w' (OfOut E eps Ss w')) := fun w' h => rof_any E A n c eps Av N cv vs Ss hn hc hl hE hN hNl hS w' (hr.fr h) (hrv.fr h) (hrows.fr h)
  have RF : Hid (∀ w', Fr w w' → Calls Tryz.prog 18 #[.slice A n c, .int .i64 eps, .slice Av N cv] w' (RefOut E eps Ss w'.heap.size w')) := fun w' h => r11of_calls E A n c eps Av N cv vs Ss hn hl hE hN hNl hS w' (hr.fr h) (hrv.fr h) (hrows.fr h)
  clear hr hn hE hc hrq hQ hm hN hS hrv hrows
  go_enter Tryz.func6, Tryz.ntmps6
  go_wp2_with fail
  refine (shown11_calls w).mono ?_
  rintro _ w1 ⟨rfl, hf1⟩
  have HF1 := Lib.hid hf1
  clear hf1
  go_wp2_with fail
  refine (OF.out w1 HF1.out).mono ?_
  rintro e2 w2 ⟨hf2, hor⟩
  have HF2 : Hid (Fr w w2) := HF1.out.trans hf2
  clear hf2
  rcases hor with ⟨v, hv, rfl⟩ | ⟨he, r, p, rfl, _, hb⟩
  · have HV := Lib.hid hv
    clear hv
    go_wp2_with fail
    refine (RF.out w2 HF2.out).mono ?_
    rintro e3 w3 hrf
    have he3 := ref_no HV.out hrf
    have HF3 : Hid (Fr w w3) := HF2.out.trans hrf.1
    subst he3
    have e1 : (v == v) = true := by simp
    clear hrf
    go_wp2_with fail
    go_ret
    exact ⟨rfl, HF3.out⟩
  · have BD : Hid (∀ (k : Int) w', 0 ≤ k ∧ k < 18446744073709551616 → Fr w2 w' → Calls Tryz.prog 16 #[.pointer (some ⟨r, 0, none⟩), .int .u64 k] w' fun e w'' => e = .returned (.bool true) ∧ Fr w' w'') := fun k w' hk h => bound_calls r p eps E Ss k w' (hb.fr h).run (hb.fr h).ok (by have := HN.out; omega) hk
    clear hb he
    go_wp2_with fail
    go_loopw [14] (fun v wr => ∃ i : Nat, v = .int .i64 i ∧ i ≤ m ∧ Hid (Fr w2 wr)) (fun v _ => m - (intOf v).toNat)
    case atStart => exact ⟨0, rfl, by omega, Fr.refl _⟩
    case round =>
      obtain ⟨i, rfl, him, hf⟩ := hrel
      rcases Nat.lt_or_ge i m with hlt | hge
      · have g1 : decide (i < m) = true := decide_eq_true hlt
        have g2 : (i : Int) < (m : Int) := by omega
        have hiQ : i < Q.length := by have := HM.out; omega
        obtain ⟨b, off, hA, hc⟩ := rdc_ky (HRQ.out.fr (HF2.out.trans hf.out)) (by omega)
        subst hA
        have y0 := hc i hiQ
        have hk := HQ.out.ky hiQ
        obtain ⟨k, hkk⟩ : ∃ k, ky Q i = k := ⟨_, rfl⟩
        rw [hkk] at y0 hk
        have wi : IntKind.i64.wrap ((i : Int) + 1) = (i : Int) + 1 := wrap_i64_in _ (by omega) (by omega)
        clear hc hkk hiQ
        go_wp2_with fail
        refine (BD.out k wr hk hf.out).mono ?_
        rintro _ w3 ⟨rfl, hf3⟩
        have HF3 : Hid (Fr w2 w3) := hf.out.trans hf3
        clear hf3
        go_wp2_with fail
        exact ⟨⟨i + 1, rfl, by omega, HF3.out⟩, by simp only [intOf]; omega⟩
      · obtain rfl : i = m := by omega
        have g1 : decide (i < i) = false := by simp
        go_wp2_with fail
        go_ret
        exact ⟨rfl, HF2.out.trans hf.out⟩
end Go.Proofs.YtelpbbkmkighfaaGreat
namespace Go.Proofs.YtelpbbkmkighfaaGreat.rowNear
open Go.ChangeShapes Go.WideShapes Go.ChangeAt Go.RowKit Go.Inc

open Go.Run

set_option maxRecDepth 100000 in
theorem contract (H : Type) (enc : TypeId × Value → H) (W : World) (base : Nat) (args : Array Value) (ds gs : List (DataW H)) (before : List MemPlace)
    (hval : ∀ (j : Nat) t v, Tryz.f6.params[j]? = some t → args[j]? = some v → Value.okWide Tryz.prog W .any base t v)
    (hW : DataW.Whole enc Tryz.prog Tryz.f6.params.toList Rows.runNearSpec.vars false W args.toList ds gs before) (hk : Rows.uptoSmall H (ds ++ gs) = true) :
    Calls Tryz.prog 6 args W fun e W' => ∃ v, e = .returned v ∧ Rows.runNearSpec.post enc Tryz.prog Tryz.f6 false true false false W args v W' := by
  have hW' := hW
  obtain ⟨p, q, hA0, hV, rfl, hfz, hnd⟩ := hW
  have hA : DataW.TrodAll enc Tryz.prog W 0 (fun _ => true) true Tryz.f6.params.toList args.toList ds p := hA0
  rw [Tryz.params6] at hA hval
  obtain ⟨v0, vs0, d0, ds0, p0, q0, hargs, rfl, rfl, h0, r0⟩ := trodAll_cons hA
  obtain ⟨v1, vs1, d1, ds1, p1, q1, rfl, rfl, rfl, h1, r1⟩ := trodAll_cons r0
  obtain ⟨v2, vs2, d2, ds2, p2, q2, rfl, rfl, rfl, h2, r2⟩ := trodAll_cons r1
  obtain ⟨v3, vs3, d3, ds3, p3, q3, rfl, rfl, rfl, h3, r3⟩ := trodAll_cons r2
  obtain ⟨rfl, rfl, rfl⟩ := trodAll_nil r3
  obtain rfl : args = #[v0, v1, v2, v3] := by cases args; simp_all
  obtain ⟨rfl, rfl⟩ := trodVars_none hV
  have hk2 := bulk_small hk
  simp only [List.append_nil, Rows.uptoBulkAll] at hk2
  obtain ⟨a0, len0, cap0, rfl⟩ := okWide_slice Tryz.underlying22 (hval 0 22 v0 rfl rfl)
  obtain ⟨fuel0, hf0⟩ := h0
  obtain ⟨A0, n0, c0, xs0, hcs0, hn0, hc0, hm0, hrd0, hd0⟩ := open_rows encells (fun x _ => EntOk x) Tryz.underlying22 rfl (by decide) (fun _ => rfl) (el_ent) hf0
  simp [Value.cells] at hcs0
  obtain ⟨rfl, rfl, rfl⟩ := hcs0
  have hl0 : xs0.length + 1 ≤ Rows.uptoBulk d0 := bulk_rows hd0
  obtain ⟨x1, rfl, rfl, rfl, w1⟩ := open_int Tryz.underlying3 (hval 1 3 v1 rfl rfl) h1
  have b1 : -9223372036854775808 ≤ x1 ∧ x1 ≤ 9223372036854775807 := by simpa [Lit.wf, IntKind.min, IntKind.max, IntKind.signed, IntKind.bits] using w1
  obtain ⟨a2, len2, cap2, rfl⟩ := okWide_slice Tryz.underlying42 (hval 2 42 v2 rfl rfl)
  obtain ⟨fuel2, hf2⟩ := h2
  obtain ⟨A2, n2, c2, xs2, hcs2, hn2, hc2, hm2, hrd2, hd2⟩ := open_rows rowcells (fun x d => x.S.length ≤ x.c ∧ RdC W x.A (x.S.flatMap sgcells) ∧ (∀ s ∈ x.S, SegFit s) ∧ x.S.length ≤ Rows.uptoBulk d) Tryz.underlying42 rfl (by decide) (fun _ => rfl) (el_row) hf2
  simp [Value.cells] at hcs2
  obtain ⟨rfl, rfl, rfl⟩ := hcs2
  have hl2 : xs2.length + 1 ≤ Rows.uptoBulk d2 := bulk_rows hd2
  obtain ⟨a3, len3, cap3, rfl⟩ := okWide_slice Tryz.underlying49 (hval 3 49 v3 rfl rfl)
  obtain ⟨fuel3, hf3⟩ := h3
  obtain ⟨A3, n3, c3, xs3, hcs3, hn3, hc3, hm3, hrd3, hd3⟩ := open_rows (fun x : Int => [uv x]) (fun x _ => U64 x) Tryz.underlying49 rfl (by decide) (fun _ => rfl) (el_num64 Tryz.underlying33) hf3
  simp [Value.cells] at hcs3
  obtain ⟨rfl, rfl, rfl⟩ := hcs3
  have hl3 : xs3.length + 1 ≤ Rows.uptoBulk d3 := bulk_rows hd3
  have hE0 : ∀ e ∈ xs0, EntOk e := fun y hy => by
    obtain ⟨d', h1, _⟩ := bulk_elem hd0 y hy
    exact h1
  have hRW2 : RowsR W (xs2.flatMap rowcells) (xs2.map (·.S)) := rows_of (fun y hy => by
    obtain ⟨d', h1, _⟩ := bulk_elem hd2 y hy
    exact ⟨h1.1, h1.2.1⟩)
  have hRS2 : ∀ S ∈ xs2.map (·.S), S.length ≤ 268435456 ∧ ∀ s ∈ S, SegFit s := fun S hS => by
    obtain ⟨y, hy, rfl⟩ := List.mem_map.1 hS
    obtain ⟨d', h1, h2⟩ := bulk_elem hd2 y hy
    have h2 : Rows.uptoBulk d' ≤ Rows.uptoBulk d2 := h2
    exact ⟨by have := h1.2.2.2; omega, h1.2.2.1⟩
  rw [flat_one] at hrd3
  have hQ3 : KeysOk xs3 := fun y hy => by
    obtain ⟨d', h1, _⟩ := bulk_elem hd3 y hy
    exact h1
  refine (runNear_calls xs0 a0 len0 cap0 x1 a2 len2 cap2 (xs2.flatMap rowcells) (xs2.map (·.S)) xs3 a3 len3 cap3 hn3 (by omega) hQ3 hn0 (by omega) (by omega) hE0 (by rw [List.length_map]; exact hn2) (by omega) hRS2 W hrd0 hrd2 hRW2 hrd3).mono fun e W' ⟨he, hg⟩ => ?_
  subst he
  exact ⟨_, rfl, law_post laidOut rfl 4 rfl Tryz.underlying4 (fun ds h => by
    match ds, h with
    | [_, _, _, _], _ => rfl) (by kernel_rfl) hW' hg⟩

set_option maxRecDepth 100000 in
theorem lifted (os : Os) (started : os.Started) (H : Type) (enc : TypeId × Value → H) (F : Stop.Interp) :
    ReturnsInHanded {} Tryz.checked os 6 .any ((Rows.OpenSpec.upto Rows.runNearSpec).pre6 enc Tryz.prog Tryz.f6 Rows.runNearUptoRow.domain false) (((Rows.OpenSpec.upto Rows.runNearSpec).at F).post enc Tryz.prog Tryz.f6 false true false false) := by
  refine returnsInHanded_of_cond (C := Tryz.checked) (s := Rows.OpenSpec.upto Rows.runNearSpec) (k := Rows.uptoSmall) rfl own started (by kernel_rfl) Tryz.func6
    (OpenSpec.witness (enc := enc) (C := Tryz.checked) (s := Rows.OpenSpec.upto Rows.runNearSpec) (k := Rows.uptoSmall) rfl false ⟨#[], #[.slice none 0 0, .int .i64 0, .slice none 0 0, .slice none 0 0], []⟩ 8 (by kernel_rfl) (by kernel_rfl) (by kernel_rfl)
      (x := ([.nil, .lit (.int .i64 0), .nil, .nil], [], [])) (by kernel_rfl) rfl (by kernel_rfl)) ?_
  intro W base args ds gs before hval hW _ hk _
  exact contract H enc W base args ds gs before hval hW hk

theorem proved : Rows.RunNearUptoSaid :=
  OpenClaim.holds_of_cond 6 Tryz.f6 rfl rfl rfl rfl rfl rfl rfl ⟨rfl, rfl, rfl, rfl, rfl⟩ rfl rfl rfl rfl rfl (by kernel_rfl) Tryz.func6 (by kernel_rfl)
    (of_decide_eq_true (by kernel_rfl)) (by unfold Func.isWrapper; first | (rw [if_pos (by decide +kernel)]; kernel_rfl) | (rw [if_neg (by decide +kernel)]; exact ⟨rfl, rfl⟩))
    (fun os started H enc _ F => lifted os started H enc F)

end Go.Proofs.YtelpbbkmkighfaaGreat.rowNear
#print axioms Go.Proofs.YtelpbbkmkighfaaGreat.rowNear.proved
