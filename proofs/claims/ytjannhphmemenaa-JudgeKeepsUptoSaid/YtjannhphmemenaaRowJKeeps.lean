/- JudgeKeeps holds: for every input whose bulk is at most 1048576 the law returns true and its arguments read as before. -/
import Derived.Test.YtjannhphmemenaaLawK
import Derived.Test.YtjannhphmemenaaJudN
namespace Go.Proofs.Ytjannhphmemenaa.rowJKeeps
open Go.ChangeShapes Go.WideShapes Go.ChangeAt Go.RowKit Go.Inc

open Go.Jud

theorem contract (H : Type) (enc : TypeId × Value → H) (W : World) (base : Nat) (args : Array Value) (ds gs : List (DataW H)) (before : List MemPlace)
    (hval : ∀ (j : Nat) t v, Try.f6.params[j]? = some t → args[j]? = some v → Value.okWide Try.prog W .any base t v)
    (hW : DataW.Whole enc Try.prog Try.f6.params.toList Rows.judgeKeepsSpec.vars false W args.toList ds gs before) (hk : Rows.uptoSmall H (ds ++ gs) = true) :
    Calls Try.prog 6 args W fun e W' => ∃ v, e = .returned v ∧ Rows.judgeKeepsSpec.post enc Try.prog Try.f6 false true false false W args v W' := by
  have hW' := hW
  obtain ⟨p, q, hA0, hV, rfl, hfz, hnd⟩ := hW
  have hA : DataW.TrodAll enc Try.prog W 0 (fun _ => true) true Try.f6.params.toList args.toList ds p := hA0
  rw [Try.params6] at hA hval
  obtain ⟨v0, vs0, d0, ds0, p0, q0, hargs, rfl, rfl, h0, r0⟩ := trodAll_cons hA
  obtain ⟨v1, vs1, d1, ds1, p1, q1, rfl, rfl, rfl, h1, r1⟩ := trodAll_cons r0
  obtain ⟨v2, vs2, d2, ds2, p2, q2, rfl, rfl, rfl, h2, r2⟩ := trodAll_cons r1
  obtain ⟨rfl, rfl, rfl⟩ := trodAll_nil r2
  obtain rfl : args = #[v0, v1, v2] := by cases args; simp_all
  obtain ⟨rfl, rfl⟩ := trodVars_none hV
  have hk2 := bulk_small hk
  simp only [List.append_nil, Rows.uptoBulkAll] at hk2
  obtain ⟨x0, rfl, rfl, rfl, w0⟩ := open_int Try.underlying3 (hval 0 3 v0 rfl rfl) h0
  have b0 : -9223372036854775808 ≤ x0 ∧ x0 ≤ 9223372036854775807 := by simpa [Lit.wf, IntKind.min, IntKind.max, IntKind.signed, IntKind.bits] using w0
  obtain ⟨a1, len1, cap1, rfl⟩ := okWide_slice Try.underlying49 (hval 1 49 v1 rfl rfl)
  obtain ⟨fuel1, hf1⟩ := h1
  obtain ⟨A1, n1, c1, xs1, hcs1, hn1, hc1, hm1, hrd1, hd1⟩ := open_rows scells (fun x d => (U x.o.key ∧ U x.o.val) ∧ RdC W x.x.B (x.x.a.list.flatMap pcells) ∧ x.x.a.list.length ≤ Rows.uptoBulk d) Try.underlying49 rfl (by decide) (fun _ => rfl) (el_seen) hf1
  simp [Value.cells] at hcs1
  obtain ⟨rfl, rfl, rfl⟩ := hcs1
  have hl1 : xs1.length + 1 ≤ Rows.uptoBulk d1 := bulk_rows hd1
  obtain ⟨x2, rfl, rfl, rfl, w2⟩ := open_int Try.underlying3 (hval 2 3 v2 rfl rfl) h2
  have b2 : -9223372036854775808 ≤ x2 ∧ x2 ≤ 9223372036854775807 := by simpa [Lit.wf, IntKind.min, IntKind.max, IntKind.signed, IntKind.bits] using w2
  have hall : ∀ s ∈ xs1, AnsOk W s.x := fun y hy => by
    obtain ⟨d', h1, h2⟩ := bulk_elem hd1 y hy
    have h2 : Rows.uptoBulk d' ≤ Rows.uptoBulk d1 := h2
    exact ⟨h1.2.1, by have := h1.2.2; omega⟩
  have hops : ∀ s ∈ xs1, U s.o.key ∧ U s.o.val := fun y hy => by
    obtain ⟨d', h1, _⟩ := bulk_elem hd1 y hy
    exact h1.1
  refine (judgeKeeps_calls x0 xs1 a1 len1 cap1 x2 W b0 hn1 (by omega) b2 hrd1 hall hops).mono fun e W' ⟨he, hg⟩ => ?_
  subst he
  exact ⟨_, rfl, law_post laidOut rfl 4 rfl Try.underlying4 (fun ds h => by
    match ds, h with
    | [_, _, _], _ => rfl) (by kernel_rfl) hW' hg⟩

set_option maxRecDepth 100000 in
theorem lifted (os : Os) (started : os.Started) (H : Type) (enc : TypeId × Value → H) (F : Stop.Interp) :
    ReturnsInHanded {} Try.checked os 6 .any ((Rows.OpenSpec.upto Rows.judgeKeepsSpec).pre6 enc Try.prog Try.f6 Rows.judgeKeepsUptoRow.domain false) (((Rows.OpenSpec.upto Rows.judgeKeepsSpec).at F).post enc Try.prog Try.f6 false true false false) := by
  refine returnsInHanded_of_cond (C := Try.checked) (s := Rows.OpenSpec.upto Rows.judgeKeepsSpec) (k := Rows.uptoSmall) rfl own started (by kernel_rfl) Try.func6
    (OpenSpec.witness (enc := enc) (C := Try.checked) (s := Rows.OpenSpec.upto Rows.judgeKeepsSpec) (k := Rows.uptoSmall) rfl false ⟨#[], #[.int .i64 0, .slice none 0 0, .int .i64 0], []⟩ 8 (by kernel_rfl) (by kernel_rfl) (by kernel_rfl)
      (x := ([.lit (.int .i64 0), .nil, .lit (.int .i64 0)], [], [])) (by kernel_rfl) rfl (by kernel_rfl)) ?_
  intro W base args ds gs before hval hW _ hk _
  exact contract H enc W base args ds gs before hval hW hk

theorem proved : Rows.JudgeKeepsUptoSaid :=
  OpenClaim.holds_of_cond 6 Try.f6 rfl rfl rfl rfl rfl rfl rfl ⟨rfl, rfl, rfl, rfl, rfl⟩ rfl rfl rfl rfl rfl (by kernel_rfl) Try.func6 (by kernel_rfl)
    (of_decide_eq_true (by kernel_rfl)) (by unfold Func.isWrapper; first | (rw [if_pos (by decide +kernel)]; kernel_rfl) | (rw [if_neg (by decide +kernel)]; exact ⟨rfl, rfl⟩))
    (fun os started H enc _ F => lifted os started H enc F)

end Go.Proofs.Ytjannhphmemenaa.rowJKeeps
#print axioms Go.Proofs.Ytjannhphmemenaa.rowJKeeps.proved
