/- Opening rows of operations with answers. -/
import Derived.Test.YtjannhphmemenaaJudL
import Derived.Test.YtjannhphmemenaaLawP
namespace Go.Proofs.Ytjannhphmemenaa
open Go.RowKit Go.Inc Go.Jud Go.ChangeShapes Go.WideShapes Go.ChangeAt
theorem el_seen {H : Type} {enc : TypeId × Value → H} {w : World} {spare : Nat → Bool} {held : Bool} :
    ∀ fuel cs (d : DataW H) p, DataW.trod enc Try.prog w 0 spare held fuel 51 cs = some (d, p) → ∃ x : SeenC, cs = scells x ∧ ((U x.o.key ∧ U x.o.val) ∧ RdC w x.x.B (x.x.a.list.flatMap pcells) ∧ x.x.a.list.length ≤ Rows.uptoBulk d) := by
  intro fuel cs d p h
  obtain ⟨y0, y1, n, hx, hl, h0, h1⟩ := trod_struct2 Try.underlying51 h
  obtain ⟨o, e0, b0⟩ := el_op n _ y0.1 y0.2 h0
  obtain ⟨a, e1, b1⟩ := el_ans n _ y1.1 y1.2 h1
  have hc : Try.prog.cellsOf 51 = 9 := by kernel_rfl
  have hc0 : Try.prog.cellsOf 33 = 3 := by kernel_rfl
  have hc1 : Try.prog.cellsOf 44 = 6 := by kernel_rfl
  rw [hc] at hl
  refine ⟨⟨o, a⟩, ?_, b0, b1.1, ?_⟩
  · match cs, hl with
    | [c0, c1, c2, c3, c4, c5, c6, c7, c8], _ =>
      simp [hc0, hc1] at e0 e1
      simp [scells, ← e0, ← e1]
  · have hd : d = .agg [y0.1, y1.1] := by simpa using congrArg Prod.fst hx
    subst hd
    have := b1.2
    simp only [Rows.uptoBulk, Rows.uptoBulkAll]
    show a.a.list.length ≤ _
    omega
end Go.Proofs.Ytjannhphmemenaa
