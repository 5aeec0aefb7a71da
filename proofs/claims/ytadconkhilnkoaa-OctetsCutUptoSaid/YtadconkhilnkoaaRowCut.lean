/- OctetsCut holds: for every input whose bulk is at most 1048576 the law returns true and its arguments read as before. -/
import Derived.Test.YtadconkhilnkoaaCut
import Derived.Test.YtadconkhilnkoaaBulk
namespace Go.Proofs.Ytadconkhilnkoaa.rowCut
open Go.ChangeShapes Go.WideShapes Go.ChangeAt Go.RowKit Go.Inc

theorem contract (H : Type) (enc : TypeId × Value → H) (W : World) (base : Nat) (args : Array Value) (ds gs : List (DataW H)) (before : List MemPlace)
    (hval : ∀ (j : Nat) t v, Try.f5.params[j]? = some t → args[j]? = some v → Value.okWide Try.prog W .any base t v)
    (hW : DataW.Whole enc Try.prog Try.f5.params.toList Rows.octetsCutSpec.vars false W args.toList ds gs before) (hk : Rows.uptoSmall H (ds ++ gs) = true) :
    Calls Try.prog 5 args W fun e W' => ∃ v, e = .returned v ∧ Rows.octetsCutSpec.post enc Try.prog Try.f5 false true false false W args v W' := by
  have hW' := hW
  obtain ⟨p, q, hA0, hV, rfl, hfz, hnd⟩ := hW
  have hA : DataW.TrodAll enc Try.prog W 0 (fun _ => true) true Try.f5.params.toList args.toList ds p := hA0
  rw [Try.params5] at hA hval
  obtain ⟨v0, vs0, d0, ds0, p0, q0, hargs, rfl, rfl, h0, r0⟩ := trodAll_cons hA
  obtain ⟨v1, vs1, d1, ds1, p1, q1, rfl, rfl, rfl, h1, r1⟩ := trodAll_cons r0
  obtain ⟨rfl, rfl, rfl⟩ := trodAll_nil r1
  obtain rfl : args = #[v0, v1] := by cases args; simp_all
  obtain ⟨rfl, rfl⟩ := trodVars_none hV
  obtain ⟨a0, len0, cap0, rfl⟩ := okWide_slice Try.underlying45 (hval 0 45 v0 rfl rfl)
  obtain ⟨fuel, hf⟩ := h0
  obtain ⟨A, n, c, xs, hcs, hn, hc, hm, hrd, hd⟩ := open_rows (fun b : Nat => [Value.int .u64 b]) (fun b _ => b < 18446744073709551616) Try.underlying45 rfl (by decide) (fun _ => rfl) (el_u64 Try.underlying23) hf
  simp [Value.cells] at hcs
  obtain ⟨rfl, rfl, rfl⟩ := hcs
  rw [flat_one] at hrd
  obtain ⟨x, rfl, rfl, rfl, w1⟩ := open_int Try.underlying3 (hval 1 3 v1 rfl rfl) h1
  have b1 : -9223372036854775808 ≤ x ∧ x ≤ 9223372036854775807 := by simpa [Lit.wf, IntKind.min, IntKind.max, IntKind.signed, IntKind.bits] using w1
  have hlen : xs.length ≤ 1048576 := by
    have h1 : xs.length + 1 ≤ Rows.uptoBulk d0 := bulk_rows hd
    have h2 := bulk_small hk
    simp only [List.append_nil, Rows.uptoBulkAll] at h2
    omega
  have hall : ∀ x ∈ xs, x < 18446744073709551616 := by
    intro y hy
    obtain ⟨i, hi, rfl⟩ := List.getElem_of_mem hy
    rcases hd with ⟨_, rfl⟩ | ⟨el, sp, _, _, h⟩
    · simp at hi
    · obtain ⟨d, _, hr⟩ := h i xs[i] (List.getElem?_eq_getElem hi)
      exact hr
  refine (cut_calls a0 len0 cap0 xs x W hn hlen b1 hall hrd).mono fun e W' ⟨he, hg⟩ => ?_
  subst he
  exact ⟨_, rfl, law_post laidOut rfl 4 rfl Try.underlying4 (fun ds h => by
    match ds, h with
    | [_, _], _ => rfl) (by kernel_rfl) hW' hg⟩

set_option maxRecDepth 100000 in
theorem lifted (os : Os) (started : os.Started) (H : Type) (enc : TypeId × Value → H) (F : Stop.Interp) :
    ReturnsInHanded {} Try.checked os 5 .any ((Rows.OpenSpec.upto Rows.octetsCutSpec).pre6 enc Try.prog Try.f5 Rows.octetsCutUptoRow.domain false) (((Rows.OpenSpec.upto Rows.octetsCutSpec).at F).post enc Try.prog Try.f5 false true false false) := by
  refine returnsInHanded_of_cond (C := Try.checked) (s := Rows.OpenSpec.upto Rows.octetsCutSpec) (k := Rows.uptoSmall) rfl own started (by kernel_rfl) Try.func5
    (OpenSpec.witness (enc := enc) (C := Try.checked) (s := Rows.OpenSpec.upto Rows.octetsCutSpec) (k := Rows.uptoSmall) rfl false ⟨#[], #[.slice none 0 0, .int .i64 0], []⟩ 8 (by kernel_rfl) (by kernel_rfl) (by kernel_rfl)
      (x := ([.nil, .lit (.int .i64 0)], [], [])) (by kernel_rfl) rfl (by kernel_rfl)) ?_
  intro W base args ds gs before hval hW _ hk _
  exact contract H enc W base args ds gs before hval hW hk

theorem proved : Rows.OctetsCutUptoSaid :=
  OpenClaim.holds_of_cond 5 Try.f5 rfl rfl rfl rfl rfl rfl rfl ⟨rfl, rfl, rfl, rfl, rfl⟩ rfl rfl rfl rfl rfl (by kernel_rfl) Try.func5 (by kernel_rfl)
    (of_decide_eq_true (by kernel_rfl)) (by unfold Func.isWrapper; first | (rw [if_pos (by decide +kernel)]; kernel_rfl) | (rw [if_neg (by decide +kernel)]; exact ⟨rfl, rfl⟩))
    (fun os started H enc _ F => lifted os started H enc F)

end Go.Proofs.Ytadconkhilnkoaa.rowCut
#print axioms Go.Proofs.Ytadconkhilnkoaa.rowCut.proved
