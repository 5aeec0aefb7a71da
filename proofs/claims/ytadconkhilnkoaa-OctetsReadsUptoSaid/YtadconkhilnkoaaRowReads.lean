/- OctetsReads holds: for every input whose bulk is at most 1048576 the law returns true and its arguments read as before. -/
import Derived.Test.YtadconkhilnkoaaReads
import Derived.Test.YtadconkhilnkoaaBulk
namespace Go.Proofs.Ytadconkhilnkoaa.rowReads
open Go.ChangeShapes Go.WideShapes Go.ChangeAt Go.RowKit Go.Inc

theorem el_op {H : Type} {enc : TypeId × Value → H} {w : World} {spare : Nat → Bool} {held : Bool} :
    ∀ fuel cs (d : DataW H) p, DataW.trod enc Try.prog w 0 spare held fuel 53 cs = some (d, p) → ∃ x : Op10, cs = x.cells ∧ ((-9223372036854775808 ≤ x.kind ∧ x.kind ≤ 9223372036854775807) ∧ (-9223372036854775808 ≤ x.n ∧ x.n ≤ 9223372036854775807) ∧ x.w.length ≤ Rows.uptoBulk d) := by
  intro fuel cs d p h
  obtain ⟨xs, n, _, hx, hl, hlen, hf⟩ := DataW.trod_struct Try.underlying53 h
  match xs, hlen with
  | [y0, y1, y2], _ =>
    obtain ⟨a, e0, b0⟩ := el_i64 Try.underlying3 n _ y0.1 y0.2 (hf 0 _ rfl)
    obtain ⟨b, e1, b1⟩ := el_i64 Try.underlying3 n _ y1.1 y1.2 (hf 1 _ rfl)
    obtain ⟨s, e2, hs, _⟩ := DataW.trod_string Try.underlying9 (hf 2 _ rfl)
    have hc : Try.prog.cellsOf 53 = 3 := by kernel_rfl
    have hc0 : Try.prog.cellsOf 3 = 1 := by kernel_rfl
    have hc1 : Try.prog.cellsOf 9 = 1 := by kernel_rfl
    rw [hc] at hl
    refine ⟨⟨a, b, s.data.toList⟩, ?_, b0, b1, ?_⟩
    · match cs, hl with
      | [c0, c1, c2], _ =>
        simp [hc0, hc1] at e0 e1 e2
        simp [Op10.cells, e0, e1, e2, bstr_of]
    · have hd : d = .agg [y0.1, y1.1, y2.1] := by simpa using congrArg Prod.fst hx
      subst hd
      have h2 : y2.1 = .lit (.string s.data.toList) := by have := congrArg Prod.fst hs; simpa using this
      simp only [h2, Rows.uptoBulk, Rows.uptoBulkAll]
      omega


theorem contract (H : Type) (enc : TypeId × Value → H) (W : World) (base : Nat) (args : Array Value) (ds gs : List (DataW H)) (before : List MemPlace)
    (hval : ∀ (j : Nat) t v, Try.f6.params[j]? = some t → args[j]? = some v → Value.okWide Try.prog W .any base t v)
    (hW : DataW.Whole enc Try.prog Try.f6.params.toList Rows.octetsReadsSpec.vars false W args.toList ds gs before) (hk : Rows.uptoSmall H (ds ++ gs) = true) :
    Calls Try.prog 6 args W fun e W' => ∃ v, e = .returned v ∧ Rows.octetsReadsSpec.post enc Try.prog Try.f6 false true false false W args v W' := by
  have hW' := hW
  obtain ⟨p, q, hA0, hV, rfl, hfz, hnd⟩ := hW
  have hA : DataW.TrodAll enc Try.prog W 0 (fun _ => true) true Try.f6.params.toList args.toList ds p := hA0
  rw [Try.params6] at hA hval
  obtain ⟨v0, vs0, d0, ds0, p0, q0, hargs, rfl, rfl, h0, r0⟩ := trodAll_cons hA
  obtain ⟨v1, vs1, d1, ds1, p1, q1, rfl, rfl, rfl, h1, r1⟩ := trodAll_cons r0
  obtain ⟨rfl, rfl, rfl⟩ := trodAll_nil r1
  obtain rfl : args = #[v0, v1] := by cases args; simp_all
  obtain ⟨rfl, rfl⟩ := trodVars_none hV
  have hk2 := bulk_small hk
  simp only [List.append_nil, Rows.uptoBulkAll] at hk2
  obtain ⟨a0, len0, cap0, rfl⟩ := okWide_slice Try.underlying22 (hval 0 22 v0 rfl rfl)
  obtain ⟨fuel0, hf0⟩ := h0
  obtain ⟨A0, n0, c0, xs0, hcs0, hn0, hc0, hm0, hrd0, hd0⟩ := open_rows (fun b : UInt8 => [bv b]) (fun _ _ => True) Try.underlying22 rfl (by decide) (fun _ => rfl) (el_u8 Try.underlying5) hf0
  simp [Value.cells] at hcs0
  obtain ⟨rfl, rfl, rfl⟩ := hcs0
  have hl0 : xs0.length + 1 ≤ Rows.uptoBulk d0 := bulk_rows hd0
  obtain ⟨a1, len1, cap1, rfl⟩ := okWide_slice Try.underlying49 (hval 1 49 v1 rfl rfl)
  obtain ⟨fuel1, hf1⟩ := h1
  obtain ⟨A1, n1, c1, xs1, hcs1, hn1, hc1, hm1, hrd1, hd1⟩ := open_rows Op10.cells (fun x d => (-9223372036854775808 ≤ x.kind ∧ x.kind ≤ 9223372036854775807) ∧ (-9223372036854775808 ≤ x.n ∧ x.n ≤ 9223372036854775807) ∧ x.w.length ≤ Rows.uptoBulk d) Try.underlying49 rfl (by decide) (fun _ => rfl) (el_op) hf1
  simp [Value.cells] at hcs1
  obtain ⟨rfl, rfl, rfl⟩ := hcs1
  have hl1 : xs1.length + 1 ≤ Rows.uptoBulk d1 := bulk_rows hd1
  rw [flat_one] at hrd0
  have hall : ∀ x ∈ xs1, x.ok := fun y hy => by
    obtain ⟨d', h1, h2⟩ := bulk_elem hd1 y hy
    have h2 : Rows.uptoBulk d' ≤ Rows.uptoBulk d1 := h2
    exact ⟨h1.1, h1.2.1, by have := h1.2.2; omega⟩
  refine (reads_calls a0 len0 cap0 xs0 a1 len1 cap1 xs1 W hn0 hn1 (by omega) (by omega) hall hrd0 hrd1).mono fun e W' ⟨he, hg⟩ => ?_
  subst he
  exact ⟨_, rfl, law_post laidOut rfl 4 rfl Try.underlying4 (fun ds h => by
    match ds, h with
    | [_, _], _ => rfl) (by kernel_rfl) hW' hg⟩

set_option maxRecDepth 100000 in
theorem lifted (os : Os) (started : os.Started) (H : Type) (enc : TypeId × Value → H) (F : Stop.Interp) :
    ReturnsInHanded {} Try.checked os 6 .any ((Rows.OpenSpec.upto Rows.octetsReadsSpec).pre6 enc Try.prog Try.f6 Rows.octetsReadsUptoRow.domain false) (((Rows.OpenSpec.upto Rows.octetsReadsSpec).at F).post enc Try.prog Try.f6 false true false false) := by
  refine returnsInHanded_of_cond (C := Try.checked) (s := Rows.OpenSpec.upto Rows.octetsReadsSpec) (k := Rows.uptoSmall) rfl own started (by kernel_rfl) Try.func6
    (OpenSpec.witness (enc := enc) (C := Try.checked) (s := Rows.OpenSpec.upto Rows.octetsReadsSpec) (k := Rows.uptoSmall) rfl false ⟨#[], #[.slice none 0 0, .slice none 0 0], []⟩ 8 (by kernel_rfl) (by kernel_rfl) (by kernel_rfl)
      (x := ([.nil, .nil], [], [])) (by kernel_rfl) rfl (by kernel_rfl)) ?_
  intro W base args ds gs before hval hW _ hk _
  exact contract H enc W base args ds gs before hval hW hk

theorem proved : Rows.OctetsReadsUptoSaid :=
  OpenClaim.holds_of_cond 6 Try.f6 rfl rfl rfl rfl rfl rfl rfl ⟨rfl, rfl, rfl, rfl, rfl⟩ rfl rfl rfl rfl rfl (by kernel_rfl) Try.func6 (by kernel_rfl)
    (of_decide_eq_true (by kernel_rfl)) (by unfold Func.isWrapper; first | (rw [if_pos (by decide +kernel)]; kernel_rfl) | (rw [if_neg (by decide +kernel)]; exact ⟨rfl, rfl⟩))
    (fun os started H enc _ F => lifted os started H enc F)

end Go.Proofs.Ytadconkhilnkoaa.rowReads
#print axioms Go.Proofs.Ytadconkhilnkoaa.rowReads.proved
