/- Opening the arguments of the laws of layer 23. -/
import Derived.Test.YtjannhphmemenaaJudB
import Derived.Test.YtjannhphmemenaaBulk
namespace Go.Proofs.Ytjannhphmemenaa
open Go.RowKit Go.Inc Go.Jud Go.ChangeShapes Go.WideShapes Go.ChangeAt

section
variable {H : Type} {enc : TypeId × Value → H} {w : World} {spare : Nat → Bool} {held : Bool}
theorem el_num {e : TypeId} (he : Try.prog.underlying e = some (.int .u64)) : ∀ fuel cs (d : DataW H) p, DataW.trod enc Try.prog w 0 spare held fuel e cs = some (d, p) → ∃ x : Int, cs = [Value.int .u64 x] ∧ U x := by
  intro fuel cs d p h
  obtain ⟨n, rfl, _, wf⟩ := DataW.trod_int he h
  have : 0 ≤ n ∧ n ≤ 18446744073709551615 := by simpa [Lit.wf, IntKind.min, IntKind.max, IntKind.signed, IntKind.bits] using wf
  exact ⟨n, rfl, this.1, by omega⟩
theorem el_op : ∀ fuel cs (d : DataW H) p, DataW.trod enc Try.prog w 0 spare held fuel 33 cs = some (d, p) → ∃ x : OpV, cs = ocells x ∧ (U x.key ∧ U x.val) := by
  intro fuel cs d p h
  obtain ⟨xs, n, _, hx, hl, hlen, hf⟩ := DataW.trod_struct Try.underlying33 h
  match xs, hlen with
  | [y0, y1, y2], _ =>
    obtain ⟨a, e0, _⟩ := el_i64 Try.underlying3 n _ y0.1 y0.2 (hf 0 _ rfl)
    obtain ⟨b, e1, b1⟩ := el_num Try.underlying31 n _ y1.1 y1.2 (hf 1 _ rfl)
    obtain ⟨c, e2, b2⟩ := el_num Try.underlying31 n _ y2.1 y2.2 (hf 2 _ rfl)
    have hc : Try.prog.cellsOf 33 = 3 := by kernel_rfl
    have hc0 : Try.prog.cellsOf 3 = 1 := by kernel_rfl
    have hc1 : Try.prog.cellsOf 31 = 1 := by kernel_rfl
    rw [hc] at hl
    refine ⟨⟨a, b, c⟩, ?_, b1, b2⟩
    match cs, hl with
    | [c0, c1, c2], _ =>
      simp [hc0, hc1] at e0 e1 e2
      simp [ocells, e0, e1, e2]
theorem el_pair : ∀ fuel cs (d : DataW H) p, DataW.trod enc Try.prog w 0 spare held fuel 55 cs = some (d, p) → ∃ x : Pr, cs = pcells x ∧ (U x.1 ∧ U x.2) := by
  intro fuel cs d p h
  obtain ⟨y0, y1, n, _, hl, h0, h1⟩ := trod_struct2 Try.underlying55 h
  obtain ⟨b, e1, b1⟩ := el_num Try.underlying31 n _ y0.1 y0.2 h0
  obtain ⟨c, e2, b2⟩ := el_num Try.underlying31 n _ y1.1 y1.2 h1
  have hc : Try.prog.cellsOf 55 = 2 := by kernel_rfl
  have hc1 : Try.prog.cellsOf 31 = 1 := by kernel_rfl
  rw [hc] at hl
  refine ⟨(b, c), ?_, b1, b2⟩
  match cs, hl with
  | [c0, c1], _ =>
    simp [hc1] at e1 e2
    simp [pcells, e1, e2]
theorem el_ans : ∀ fuel cs (d : DataW H) p, DataW.trod enc Try.prog w 0 spare held fuel 44 cs = some (d, p) → ∃ x : AnsC, cs = acells x ∧ (RdC w x.B (x.a.list.flatMap pcells) ∧ x.a.list.length ≤ Rows.uptoBulk d) := by
  intro fuel cs d p h
  obtain ⟨xs, n, _, hx, hl, hlen, hf⟩ := DataW.trod_struct Try.underlying44 h
  match xs, hlen with
  | [y0, y1, y2, y3, y4, y5], _ =>
    obtain ⟨a, e0, _⟩ := el_i64 Try.underlying26 n _ y0.1 y0.2 (hf 0 _ rfl)
    obtain ⟨b, e1, _⟩ := DataW.trod_bool Try.underlying4 (hf 1 _ rfl)
    obtain ⟨k, e2, _⟩ := el_num Try.underlying31 n _ y2.1 y2.2 (hf 2 _ rfl)
    obtain ⟨v, e3, _⟩ := el_num Try.underlying31 n _ y3.1 y3.2 (hf 3 _ rfl)
    obtain ⟨m, e4, _⟩ := el_i64 Try.underlying3 n _ y4.1 y4.2 (hf 4 _ rfl)
    obtain ⟨B, q, c, l, e5, hq, hqc, hqm, hrd, hd⟩ := open_rows (P := Try.prog) pcells (fun x _ => U x.1 ∧ U x.2) Try.underlying42 rfl (by decide) (fun _ => rfl) el_pair (hf 5 _ rfl)
    have hb : l.length + 1 ≤ Rows.uptoBulk y5.1 := bulk_rows hd
    have hc : Try.prog.cellsOf 44 = 6 := by kernel_rfl
    have hc0 : Try.prog.cellsOf 3 = 1 := by kernel_rfl
    have hc1 : Try.prog.cellsOf 31 = 1 := by kernel_rfl
    have hc2 : Try.prog.cellsOf 4 = 1 := by kernel_rfl
    have hc3 : Try.prog.cellsOf 26 = 1 := by kernel_rfl
    have hc4 : Try.prog.cellsOf 42 = 1 := by kernel_rfl
    rw [hc] at hl
    refine ⟨⟨⟨a, b, k, v, m, l⟩, B, c⟩, ?_, hrd, ?_⟩
    · match cs, hl with
      | [c0, c1, c2, c3, c4, c5], _ =>
        simp [hc0, hc1, hc2, hc3, hc4] at e0 e1 e2 e3 e4 e5
        simp [acells, e0, e1, e2, e3, e4, e5, hq]
    · have hd : d = .agg [y0.1, y1.1, y2.1, y3.1, y4.1, y5.1] := by simpa using congrArg Prod.fst hx
      subst hd
      simp only [Rows.uptoBulk, Rows.uptoBulkAll]
      show l.length ≤ _
      omega
theorem open_op {r : Reach} {b0 : Nat} {v : Value} {d : DataW H} {p : List MemPlace} (hv : Value.okWide Try.prog w r b0 33 v) (h : DataW.Trod enc Try.prog w 0 spare held 33 v d p) : ∃ x : OpV, v = opVal x ∧ (U x.key ∧ U x.val) := by
  obtain ⟨cs, rfl, _⟩ := okWide_struct Try.underlying33 hv
  obtain ⟨fuel, hf⟩ := h
  obtain ⟨x, hx, hu⟩ := el_op fuel _ d p hf
  refine ⟨x, ?_, hu⟩
  have h1 : cs.toList = ocells x := hx
  have h2 : cs = (ocells x).toArray := by rw [← h1]
  rw [h2]; rfl
end
end Go.Proofs.Ytjannhphmemenaa
