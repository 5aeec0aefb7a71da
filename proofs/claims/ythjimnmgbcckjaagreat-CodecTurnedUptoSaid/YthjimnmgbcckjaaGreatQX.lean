/- Parts of this proof, one behind the other: OpenE, OpenS, OpenM. -/
import Derived.Test.YthjimnmgbcckjaaGreatQI
import Derived.Test.YthjimnmgbcckjaaGreatQT
import Derived.Test.YthjimnmgbcckjaaGreatQW
namespace Go.Proofs.YthjimnmgbcckjaaGreat
open Go.RowKit Go.Inc Go.Run Go.ChangeShapes Go.WideShapes Go.ChangeAt

section
variable {H : Type} {enc : TypeId × Value → H} {w : World} {spare : Nat → Bool} {held : Bool}
def U64 (x : Int) : Prop := 0 ≤ x ∧ x < 18446744073709551616
theorem el_num64 {e : TypeId} (he : Tryz.prog.underlying e = some (.int .u64)) : ∀ fuel cs (d : DataW H) p, DataW.trod enc Tryz.prog w 0 spare held fuel e cs = some (d, p) → ∃ x : Int, cs = [Value.int .u64 x] ∧ U64 x := by
  intro fuel cs d p h
  obtain ⟨n, rfl, _, wf⟩ := DataW.trod_int he h
  have : 0 ≤ n ∧ n ≤ 18446744073709551615 := by simpa [Lit.wf, IntKind.min, IntKind.max, IntKind.signed, IntKind.bits] using wf
  exact ⟨n, rfl, this.1, by omega⟩
set_option maxRecDepth 100000 in
theorem el_ent : ∀ fuel cs (d : DataW H) p, DataW.trod enc Tryz.prog w 0 spare held fuel 52 cs = some (d, p) → ∃ x : Ent, cs = encells x ∧ EntOk x := by
  intro fuel cs d p h
  obtain ⟨xs, n, _, hx, hl, hlen, hf⟩ := DataW.trod_struct Tryz.underlying52 h
  match xs, hlen with
  | [y0, y1, y2], _ =>
    obtain ⟨a, e0, b0⟩ := el_num64 Tryz.underlying50 n _ y0.1 y0.2 (hf 0 _ rfl)
    obtain ⟨b, e1, b1⟩ := el_num64 Tryz.underlying50 n _ y1.1 y1.2 (hf 1 _ rfl)
    obtain ⟨c, e2, b2⟩ := DataW.trod_bool Tryz.underlying4 (hf 2 _ rfl)
    have hc : Tryz.prog.cellsOf 52 = 3 := by kernel_rfl
    have hc0 : Tryz.prog.cellsOf 4 = 1 := by kernel_rfl
    have hc1 : Tryz.prog.cellsOf 50 = 1 := by kernel_rfl
    rw [hc] at hl
    refine ⟨⟨a, b, c⟩, ?_, b0, b1⟩
    match cs, hl with
    | [c0, c1, c2], _ =>
      simp [hc0, hc1] at e0 e1 e2
      simp [encells, e0, e1, e2]
end
end Go.Proofs.YthjimnmgbcckjaaGreat
namespace Go.Proofs.YthjimnmgbcckjaaGreat
open Go.RowKit Go.Inc Go.Run Go.ChangeShapes Go.WideShapes Go.ChangeAt

section
variable {H : Type} {enc : TypeId × Value → H} {P : Program} {w : World} {base fuel : Nat} {spare : Nat → Bool} {held : Bool} {t : TypeId} {cs : List Value} {x : DataW H × List MemPlace}
theorem trod_float {k : FloatKind} (ht : P.underlying t = some (.float k)) (h : DataW.trod enc P w base spare held fuel t cs = some x) : ∃ n, cs = [.float k n] ∧ x = (.lit (.float k n), []) ∧ (Lit.float k n).wf = true := by
  cases fuel with
  | zero => simp [DataW.trod] at h
  | succ n =>
    unfold DataW.trod at h
    rw [ht] at h
    split at h <;> simp_all
end
section
variable {H : Type} {enc : TypeId × Value → H} {w : World} {spare : Nat → Bool} {held : Bool}
set_option maxRecDepth 100000 in
theorem el_seg : ∀ fuel cs (d : DataW H) p, DataW.trod enc Tryz.prog w 0 spare held fuel 65 cs = some (d, p) → ∃ x : Seg, cs = sgcells x ∧ SegFit x := by
  intro fuel cs d p h
  obtain ⟨xs, n, _, hx, hl, hlen, hf⟩ := DataW.trod_struct Tryz.underlying65 h
  match xs, hlen with
  | [y0, y1, y2, y3, y4], _ =>
    obtain ⟨a, e0, b0⟩ := el_num64 Tryz.underlying50 n _ y0.1 y0.2 (hf 0 _ rfl)
    obtain ⟨b, e1, _, w1⟩ := trod_float Tryz.underlying63 (hf 1 _ rfl)
    obtain ⟨c, e2, _, w2⟩ := trod_float Tryz.underlying63 (hf 2 _ rfl)
    obtain ⟨f, e3, _⟩ := el_i64 Tryz.underlying3 n _ y3.1 y3.2 (hf 3 _ rfl)
    obtain ⟨g, e4, _⟩ := el_i64 Tryz.underlying3 n _ y4.1 y4.2 (hf 4 _ rfl)
    have hc : Tryz.prog.cellsOf 65 = 5 := by kernel_rfl
    have hc0 : Tryz.prog.cellsOf 63 = 1 := by kernel_rfl
    have hc1 : Tryz.prog.cellsOf 50 = 1 := by kernel_rfl
    have hc2 : Tryz.prog.cellsOf 3 = 1 := by kernel_rfl
    rw [hc] at hl
    have v1 : b < 18446744073709551616 := by simpa [Lit.wf] using w1
    have v2 : c < 18446744073709551616 := by simpa [Lit.wf] using w2
    refine ⟨⟨a, b, c, f, g⟩, ?_, ⟨v1, v2⟩, b0⟩
    match cs, hl with
    | [c0, c1, c2, c3, c4], _ =>
      simp [hc0, hc1, hc2] at e0 e1 e2 e3 e4
      simp [sgcells, e0, e1, e2, e3, e4]
/-- A row as it is handed in. -/
structure RowC where
  A : Option Addr
  c : Nat
  S : List Seg
def rowcells (r : RowC) : List Value := [.slice r.A r.S.length r.c]
set_option maxRecDepth 100000 in
theorem el_row : ∀ fuel cs (d : DataW H) p, DataW.trod enc Tryz.prog w 0 spare held fuel 62 cs = some (d, p) → ∃ x : RowC, cs = rowcells x ∧ (x.S.length ≤ x.c ∧ RdC w x.A (x.S.flatMap sgcells) ∧ (∀ s ∈ x.S, SegFit s) ∧ x.S.length ≤ Rows.uptoBulk d) := by
  intro fuel cs d p h
  obtain ⟨A, n, c, xs, hcs, hn, hnc, hm, hrd, hd⟩ := open_rows (P := Tryz.prog) sgcells (fun x _ => SegFit x) Tryz.underlying62 rfl (by decide) (fun _ => rfl) el_seg h
  subst hn
  have hb : xs.length + 1 ≤ Rows.uptoBulk d := bulk_rows hd
  exact ⟨⟨A, c, xs⟩, hcs, hnc, hrd, fun s hs => by obtain ⟨d', h1, _⟩ := bulk_elem hd s hs; exact h1, by show xs.length ≤ _; omega⟩
theorem rows_of {w : World} : ∀ {xs : List RowC}, (∀ x ∈ xs, x.S.length ≤ x.c ∧ RdC w x.A (x.S.flatMap sgcells)) → RowsR w (xs.flatMap rowcells) (xs.map (·.S))
  | [], _ => trivial
  | x :: xs, h => by
    obtain ⟨h1, h2⟩ := h x (by simp)
    exact ⟨⟨x.A, x.c, rfl, h1, h2⟩, rows_of (fun y hy => h y (by simp [hy]))⟩
end
end Go.Proofs.YthjimnmgbcckjaaGreat
namespace Go.Proofs.YthjimnmgbcckjaaGreat
open Go.RowKit Go.Inc Go.Run Go.ChangeShapes Go.WideShapes Go.ChangeAt

section
variable {H : Type} {enc : TypeId × Value → H} {w : World} {spare : Nat → Bool} {held : Bool}
set_option maxRecDepth 100000 in
theorem el_sb : ∀ fuel cs (d : DataW H) p, DataW.trod enc Tryz.prog w 0 spare held fuel 119 cs = some (d, p) → ∃ x : Seg, cs = sbcells x ∧ SegFit x := by
  intro fuel cs d p h
  obtain ⟨xs, n, _, hx, hl, hlen, hf⟩ := DataW.trod_struct Tryz.underlying119 h
  match xs, hlen with
  | [y0, y1, y2, y3, y4], _ =>
    obtain ⟨a, e0, b0⟩ := el_num64 Tryz.underlying50 n _ y0.1 y0.2 (hf 0 _ rfl)
    obtain ⟨b, e1, b1⟩ := el_num64 Tryz.underlying50 n _ y1.1 y1.2 (hf 1 _ rfl)
    obtain ⟨c, e2, b2⟩ := el_num64 Tryz.underlying50 n _ y2.1 y2.2 (hf 2 _ rfl)
    obtain ⟨f, e3, _⟩ := el_i64 Tryz.underlying3 n _ y3.1 y3.2 (hf 3 _ rfl)
    obtain ⟨g, e4, _⟩ := el_i64 Tryz.underlying3 n _ y4.1 y4.2 (hf 4 _ rfl)
    have hc : Tryz.prog.cellsOf 119 = 5 := by kernel_rfl
    have hc1 : Tryz.prog.cellsOf 50 = 1 := by kernel_rfl
    have hc2 : Tryz.prog.cellsOf 3 = 1 := by kernel_rfl
    rw [hc] at hl
    obtain ⟨s, rfl⟩ := Int.eq_ofNat_of_zero_le b1.1
    obtain ⟨i, rfl⟩ := Int.eq_ofNat_of_zero_le b2.1
    have v1 : s < 18446744073709551616 := by have := b1.2; omega
    have v2 : i < 18446744073709551616 := by have := b2.2; omega
    refine ⟨⟨a, s, i, f, g⟩, ?_, ⟨v1, v2⟩, b0⟩
    match cs, hl with
    | [c0, c1, c2, c3, c4], _ =>
      simp [hc1, hc2] at e0 e1 e2 e3 e4
      simp [sbcells, e0, e1, e2, e3, e4]
set_option maxRecDepth 100000 in
theorem el_rowq : ∀ fuel cs (d : DataW H) p, DataW.trod enc Tryz.prog w 0 spare held fuel 117 cs = some (d, p) → ∃ x : RowC, cs = rowcells x ∧ (x.S.length ≤ x.c ∧ RdC w x.A (x.S.flatMap sbcells) ∧ (∀ s ∈ x.S, SegFit s) ∧ x.S.length ≤ Rows.uptoBulk d) := by
  intro fuel cs d p h
  obtain ⟨A, n, c, xs, hcs, hn, hnc, hm, hrd, hd⟩ := open_rows (P := Tryz.prog) sbcells (fun x _ => SegFit x) Tryz.underlying117 rfl (by decide) (fun _ => rfl) el_sb h
  subst hn
  have hb : xs.length + 1 ≤ Rows.uptoBulk d := bulk_rows hd
  exact ⟨⟨A, c, xs⟩, hcs, hnc, hrd, fun s hs => by obtain ⟨d', h1, _⟩ := bulk_elem hd s hs; exact h1, by show xs.length ≤ _; omega⟩
theorem rowsq_of {w : World} : ∀ {xs : List RowC}, (∀ x ∈ xs, x.S.length ≤ x.c ∧ RdC w x.A (x.S.flatMap sbcells)) → RowsQ w (xs.flatMap rowcells) (xs.map (·.S))
  | [], _ => trivial
  | x :: xs, h => by
    obtain ⟨h1, h2⟩ := h x (by simp)
    exact ⟨⟨x.A, x.c, rfl, h1, h2⟩, rowsq_of (fun y hy => h y (by simp [hy]))⟩
set_option maxRecDepth 100000 in
theorem open_made : ∀ fuel cs (d : DataW H) p, DataW.trod enc Tryz.prog w 0 spare held fuel 25 cs = some (d, p) → Rows.uptoBulk d ≤ 1048576 → ∃ m : MadeC, cs = [.slice m.A m.n m.c, .int .i64 m.eps, .bool m.own, .slice m.AU m.N m.cU] ∧ m.Ok w := by
  intro fuel cs d p h hk
  obtain ⟨xs, n, _, hx, hl, hlen, hf⟩ := DataW.trod_struct Tryz.underlying25 h
  match xs, hlen with
  | [y0, y1, y2, y3], _ =>
    have hd : d = .agg [y0.1, y1.1, y2.1, y3.1] := by simpa using congrArg Prod.fst hx
    obtain ⟨A0, n0, c0, xs0, e0, hn0, hc0, hm0, hrd0, hd0⟩ := open_rows encells (fun x _ => EntOk x) Tryz.underlying22 rfl (by decide) (fun _ => rfl) (el_ent) (hf 0 _ rfl)
    obtain ⟨x1, e1, _⟩ := el_i64 Tryz.underlying3 n _ y1.1 y1.2 (hf 1 _ rfl)
    obtain ⟨x2, e2, _⟩ := DataW.trod_bool Tryz.underlying4 (hf 2 _ rfl)
    obtain ⟨A3, n3, c3, xs3, e3, hn3, hc3, hm3, hrd3, hd3⟩ := open_rows rowcells (fun x d => x.S.length ≤ x.c ∧ RdC w x.A (x.S.flatMap sbcells) ∧ (∀ s ∈ x.S, SegFit s) ∧ x.S.length ≤ Rows.uptoBulk d) Tryz.underlying23 rfl (by decide) (fun _ => rfl) (el_rowq) (hf 3 _ rfl)
    have hl0 : xs0.length + 1 ≤ Rows.uptoBulk y0.1 := bulk_rows hd0
    have hl3 : xs3.length + 1 ≤ Rows.uptoBulk y3.1 := bulk_rows hd3
    rw [hd] at hk
    simp only [Rows.uptoBulk, Rows.uptoBulkAll] at hk
    have hc : Tryz.prog.cellsOf 25 = 4 := by kernel_rfl
    have k0 : Tryz.prog.cellsOf 22 = 1 := by kernel_rfl
    have k1 : Tryz.prog.cellsOf 3 = 1 := by kernel_rfl
    have k2 : Tryz.prog.cellsOf 4 = 1 := by kernel_rfl
    have k3 : Tryz.prog.cellsOf 23 = 1 := by kernel_rfl
    rw [hc] at hl
    refine ⟨⟨A0, n0, c0, x1, x2, A3, n3, c3, xs0, xs3.map (·.S), xs3.flatMap rowcells⟩, ?_, ⟨hn0, hc0, by show n0 ≤ _; omega, fun y hy => ?_, hrd0, by show n3 = _; rw [List.length_map]; exact hn3, by show n3 ≤ _; omega, fun S hS => ?_, hrd3, ?_⟩⟩
    · match cs, hl with
      | [v0, v1, v2, v3], _ =>
        simp [k0, k1, k2, k3] at e0 e1 e2 e3
        simp [e0, e1, e2, e3]
    · obtain ⟨d', h1, _⟩ := bulk_elem hd0 y hy
      exact h1
    · obtain ⟨y, hy, rfl⟩ := List.mem_map.1 hS
      obtain ⟨d', h1, h2⟩ := bulk_elem hd3 y hy
      have h2 : Rows.uptoBulk d' ≤ Rows.uptoBulk y3.1 := h2
      exact ⟨by have := h1.2.2.2; omega, h1.2.2.1⟩
    · exact rowsq_of (fun y hy => by
        obtain ⟨d', h1, _⟩ := bulk_elem hd3 y hy
        exact ⟨h1.1, h1.2.1⟩)
end
end Go.Proofs.YthjimnmgbcckjaaGreat
