/- Parts of this proof, one behind the other: OpenS. -/
import Derived.Test.YtelpbbkmkighfaaGreatQK
namespace Go.Proofs.YtelpbbkmkighfaaGreat
open Go.RowKit Go.Inc Go.Run Go.ChangeShapes Go.WideShapes Go.ChangeAt

section
variable {H : Type} {enc : TypeId × Value → H} {P : Program} {w : World} {base fuel : Nat} {spare : Nat → Bool} {held : Bool} {t : TypeId} {cs : List Value} {x : DataW H × List MemPlace}
theorem trod_float {k : FloatKind} (ht : P.underlying t = some (.float k)) (h : DataW.trod enc P w base spare held fuel t cs = some x) : ∃ n, cs = [.float k n] ∧ x = (.lit (.float k n), []) ∧ (Lit.float k n).wf = true := by
  cases fuel with
  | zero => simp [DataW.trod] at h
  | succ n =>
    unfold DataW.trod at h
    rw [ht] at h
    split at h <;> simp_all
end
section
variable {H : Type} {enc : TypeId × Value → H} {w : World} {spare : Nat → Bool} {held : Bool}
set_option maxRecDepth 100000 in
theorem el_seg : ∀ fuel cs (d : DataW H) p, DataW.trod enc Tryz.prog w 0 spare held fuel 47 cs = some (d, p) → ∃ x : Seg, cs = sgcells x ∧ SegFit x := by
  intro fuel cs d p h
  obtain ⟨xs, n, _, hx, hl, hlen, hf⟩ := DataW.trod_struct Tryz.underlying47 h
  match xs, hlen with
  | [y0, y1, y2, y3, y4], _ =>
    obtain ⟨a, e0, b0⟩ := el_num64 Tryz.underlying33 n _ y0.1 y0.2 (hf 0 _ rfl)
    obtain ⟨b, e1, _, w1⟩ := trod_float Tryz.underlying45 (hf 1 _ rfl)
    obtain ⟨c, e2, _, w2⟩ := trod_float Tryz.underlying45 (hf 2 _ rfl)
    obtain ⟨f, e3, _⟩ := el_i64 Tryz.underlying3 n _ y3.1 y3.2 (hf 3 _ rfl)
    obtain ⟨g, e4, _⟩ := el_i64 Tryz.underlying3 n _ y4.1 y4.2 (hf 4 _ rfl)
    have hc : Tryz.prog.cellsOf 47 = 5 := by kernel_rfl
    have hc0 : Tryz.prog.cellsOf 45 = 1 := by kernel_rfl
    have hc1 : Tryz.prog.cellsOf 33 = 1 := by kernel_rfl
    have hc2 : Tryz.prog.cellsOf 3 = 1 := by kernel_rfl
    rw [hc] at hl
    have v1 : b < 18446744073709551616 := by simpa [Lit.wf] using w1
    have v2 : c < 18446744073709551616 := by simpa [Lit.wf] using w2
    refine ⟨⟨a, b, c, f, g⟩, ?_, ⟨v1, v2⟩, b0⟩
    match cs, hl with
    | [c0, c1, c2, c3, c4], _ =>
      simp [hc0, hc1, hc2] at e0 e1 e2 e3 e4
      simp [sgcells, e0, e1, e2, e3, e4]
/-- A row as it is handed in. -/
structure RowC where
  A : Option Addr
  c : Nat
  S : List Seg
def rowcells (r : RowC) : List Value := [.slice r.A r.S.length r.c]
set_option maxRecDepth 100000 in
theorem el_row : ∀ fuel cs (d : DataW H) p, DataW.trod enc Tryz.prog w 0 spare held fuel 44 cs = some (d, p) → ∃ x : RowC, cs = rowcells x ∧ (x.S.length ≤ x.c ∧ RdC w x.A (x.S.flatMap sgcells) ∧ (∀ s ∈ x.S, SegFit s) ∧ x.S.length ≤ Rows.uptoBulk d) := by
  intro fuel cs d p h
  obtain ⟨A, n, c, xs, hcs, hn, hnc, hm, hrd, hd⟩ := open_rows (P := Tryz.prog) sgcells (fun x _ => SegFit x) Tryz.underlying44 rfl (by decide) (fun _ => rfl) el_seg h
  subst hn
  have hb : xs.length + 1 ≤ Rows.uptoBulk d := bulk_rows hd
  exact ⟨⟨A, c, xs⟩, hcs, hnc, hrd, fun s hs => by obtain ⟨d', h1, _⟩ := bulk_elem hd s hs; exact h1, by show xs.length ≤ _; omega⟩
theorem rows_of {w : World} : ∀ {xs : List RowC}, (∀ x ∈ xs, x.S.length ≤ x.c ∧ RdC w x.A (x.S.flatMap sgcells)) → RowsR w (xs.flatMap rowcells) (xs.map (·.S))
  | [], _ => trivial
  | x :: xs, h => by
    obtain ⟨h1, h2⟩ := h x (by simp)
    exact ⟨⟨x.A, x.c, rfl, h1, h2⟩, rows_of (fun y hy => h y (by simp [hy]))⟩
end
end Go.Proofs.YtelpbbkmkighfaaGreat
