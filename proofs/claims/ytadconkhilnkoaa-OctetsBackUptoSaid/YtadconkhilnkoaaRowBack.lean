/- OctetsBack holds: for every input whose bulk is at most 1048576 the law returns true and its arguments read as before. -/
import Derived.Test.YtadconkhilnkoaaBack
import Derived.Test.YtadconkhilnkoaaBulk
namespace Go.Proofs.Ytadconkhilnkoaa.rowBack
open Go.ChangeShapes Go.WideShapes Go.ChangeAt Go.RowKit Go.Inc

theorem el_item {H : Type} {enc : TypeId × Value → H} {w : World} {spare : Nat → Bool} {held : Bool} :
    ∀ fuel cs (d : DataW H) p, DataW.trod enc Try.prog w 0 spare held fuel 34 cs = some (d, p) → ∃ x : Item10, cs = x.cells ∧ (x.n < 18446744073709551616 ∧ -9223372036854775808 ≤ x.kind ∧ x.kind ≤ 9223372036854775807) := by
  intro fuel cs d p h
  obtain ⟨y0, y1, n, _, hl, h0, h1⟩ := trod_struct2 Try.underlying34 h
  obtain ⟨a, e0, b0⟩ := el_i64 Try.underlying3 n _ y0.1 y0.2 h0
  obtain ⟨b, e1, b1⟩ := el_u64 Try.underlying23 n _ y1.1 y1.2 h1
  have hc : Try.prog.cellsOf 34 = 2 := by kernel_rfl
  have hc0 : Try.prog.cellsOf 3 = 1 := by kernel_rfl
  have hc1 : Try.prog.cellsOf 23 = 1 := by kernel_rfl
  rw [hc] at hl
  refine ⟨⟨a, b⟩, ?_, b1, b0⟩
  match cs, hl with
  | [c0, c1], _ =>
    simp [hc0, hc1] at e0 e1
    simp [Item10.cells, e0, e1]


theorem contract (H : Type) (enc : TypeId × Value → H) (W : World) (base : Nat) (args : Array Value) (ds gs : List (DataW H)) (before : List MemPlace)
    (hval : ∀ (j : Nat) t v, Try.f4.params[j]? = some t → args[j]? = some v → Value.okWide Try.prog W .any base t v)
    (hW : DataW.Whole enc Try.prog Try.f4.params.toList Rows.octetsBackSpec.vars false W args.toList ds gs before) (hk : Rows.uptoSmall H (ds ++ gs) = true) :
    Calls Try.prog 4 args W fun e W' => ∃ v, e = .returned v ∧ Rows.octetsBackSpec.post enc Try.prog Try.f4 false true false false W args v W' := by
  have hW' := hW
  obtain ⟨p, q, hA0, hV, rfl, hfz, hnd⟩ := hW
  have hA : DataW.TrodAll enc Try.prog W 0 (fun _ => true) true Try.f4.params.toList args.toList ds p := hA0
  rw [Try.params4] at hA hval
  obtain ⟨v0, vs0, d0, ds0, p0, q0, hargs, rfl, rfl, h0, r0⟩ := trodAll_cons hA
  obtain ⟨rfl, rfl, rfl⟩ := trodAll_nil r0
  obtain rfl : args = #[v0] := by cases args; simp_all
  obtain ⟨rfl, rfl⟩ := trodVars_none hV
  have hk2 := bulk_small hk
  simp only [List.append_nil, Rows.uptoBulkAll] at hk2
  obtain ⟨a0, len0, cap0, rfl⟩ := okWide_slice Try.underlying32 (hval 0 32 v0 rfl rfl)
  obtain ⟨fuel0, hf0⟩ := h0
  obtain ⟨A0, n0, c0, xs0, hcs0, hn0, hc0, hm0, hrd0, hd0⟩ := open_rows  Item10.cells (fun x _ => x.n < 18446744073709551616 ∧ -9223372036854775808 ≤ x.kind ∧ x.kind ≤ 9223372036854775807) Try.underlying32 rfl (by decide) (fun _ => rfl) (el_item) hf0
  simp [Value.cells] at hcs0
  obtain ⟨rfl, rfl, rfl⟩ := hcs0
  have hl0 : xs0.length + 1 ≤ Rows.uptoBulk d0 := bulk_rows hd0
  have hall : ∀ x ∈ xs0, x.n < 18446744073709551616 ∧ -9223372036854775808 ≤ x.kind ∧ x.kind ≤ 9223372036854775807 := fun y hy => by
    obtain ⟨d', h1, _⟩ := bulk_elem hd0 y hy
    exact h1
  refine (back_calls a0 len0 cap0 xs0 W hn0 (by omega) hall hrd0).mono fun e W' ⟨he, hg⟩ => ?_
  subst he
  exact ⟨_, rfl, law_post laidOut rfl 4 rfl Try.underlying4 (fun ds h => by
    match ds, h with
    | [_], _ => rfl) (by kernel_rfl) hW' hg⟩

set_option maxRecDepth 100000 in
theorem lifted (os : Os) (started : os.Started) (H : Type) (enc : TypeId × Value → H) (F : Stop.Interp) :
    ReturnsInHanded {} Try.checked os 4 .any ((Rows.OpenSpec.upto Rows.octetsBackSpec).pre6 enc Try.prog Try.f4 Rows.octetsBackUptoRow.domain false) (((Rows.OpenSpec.upto Rows.octetsBackSpec).at F).post enc Try.prog Try.f4 false true false false) := by
  refine returnsInHanded_of_cond (C := Try.checked) (s := Rows.OpenSpec.upto Rows.octetsBackSpec) (k := Rows.uptoSmall) rfl own started (by kernel_rfl) Try.func4
    (OpenSpec.witness (enc := enc) (C := Try.checked) (s := Rows.OpenSpec.upto Rows.octetsBackSpec) (k := Rows.uptoSmall) rfl false ⟨#[], #[.slice none 0 0], []⟩ 8 (by kernel_rfl) (by kernel_rfl) (by kernel_rfl)
      (x := ([.nil], [], [])) (by kernel_rfl) rfl (by kernel_rfl)) ?_
  intro W base args ds gs before hval hW _ hk _
  exact contract H enc W base args ds gs before hval hW hk

theorem proved : Rows.OctetsBackUptoSaid :=
  OpenClaim.holds_of_cond 4 Try.f4 rfl rfl rfl rfl rfl rfl rfl ⟨rfl, rfl, rfl, rfl, rfl⟩ rfl rfl rfl rfl rfl (by kernel_rfl) Try.func4 (by kernel_rfl)
    (of_decide_eq_true (by kernel_rfl)) (by unfold Func.isWrapper; first | (rw [if_pos (by decide +kernel)]; kernel_rfl) | (rw [if_neg (by decide +kernel)]; exact ⟨rfl, rfl⟩))
    (fun os started H enc _ F => lifted os started H enc F)

end Go.Proofs.Ytadconkhilnkoaa.rowBack
#print axioms Go.Proofs.Ytadconkhilnkoaa.rowBack.proved
