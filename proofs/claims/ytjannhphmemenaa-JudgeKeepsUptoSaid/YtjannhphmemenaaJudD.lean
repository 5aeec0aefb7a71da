/- The walks of the judge: what the plain map answers. -/
import Derived.Test.YtjannhphmemenaaJudE
namespace Go.Proofs.Ytjannhphmemenaa
set_option maxRecDepth 100000
open Go.RowKit Go.Inc Go.Jud Go.Maps Go.Sort

/-- An operation as a value. -/
def opVal (o : OpV) : Value := .agg #[.int .i64 o.kind, .int .u64 o.key, .int .u64 o.val]
/-- An answer as a value, its list lying at A. -/
def ansVal (a : AnsV) (A : Option Addr) (c : Nat) : Value := .agg #[.int .i64 a.code, .bool a.is, .int .u64 a.key, .int .u64 a.val, .int .i64 a.num, .slice A a.list.length c]

theorem alloc2_fst (w : World) (o o' : Obj) : ((w.alloc o).alloc o').heap[w.heap.size]? = some o := ((Fr.refl _).alloc o').blk (heap_alloc_new w o)
theorem alloc2_snd (w : World) (o o' : Obj) : ((w.alloc o).alloc o').heap[w.heap.size + 1]? = some o' := by
  have := heap_alloc_new (w.alloc o) o'
  simpa using this
theorem fr2 (w : World) (o o' : Obj) : Fr w ((w.alloc o).alloc o') := ((Fr.refl w).alloc o).alloc o'
theorem ans_cells {w : World} {g : Nat} {x0 x1 x2 x3 x4 x5 : Value} {e : TypeId} (h : w.heap[g]? = some (.cells #[x0, x1, x2, x3, x4, x5] e (0, 0))) :
    w.cell? ⟨g, 0, none⟩ = some x0 ∧ w.cell? ⟨g, 1, none⟩ = some x1 ∧ w.cell? ⟨g, 2, none⟩ = some x2 ∧ w.cell? ⟨g, 3, none⟩ = some x3 ∧ w.cell? ⟨g, 4, none⟩ = some x4 ∧ w.cell? ⟨g, 5, none⟩ = some x5 ∧
    w.frozen? ⟨g, 0, none⟩ = false ∧ w.frozen? ⟨g, 1, none⟩ = false ∧ w.frozen? ⟨g, 2, none⟩ = false ∧ w.frozen? ⟨g, 3, none⟩ = false ∧ w.frozen? ⟨g, 4, none⟩ = false ∧ w.frozen? ⟨g, 5, none⟩ = false :=
  ⟨blk_cell h 0, blk_cell h 1, blk_cell h 2, blk_cell h 3, blk_cell h 4, blk_cell h 5, blk_frozen h 0, blk_frozen h 1, blk_frozen h 2, blk_frozen h 3, blk_frozen h 4, blk_frozen h 5⟩
theorem op_cells {w : World} {g : Nat} {x0 x1 x2 : Value} {e : TypeId} (h : w.heap[g]? = some (.cells #[x0, x1, x2] e (0, 0))) :
    w.cell? ⟨g, 0, none⟩ = some x0 ∧ w.cell? ⟨g, 1, none⟩ = some x1 ∧ w.cell? ⟨g, 2, none⟩ = some x2 := ⟨blk_cell h 0, blk_cell h 1, blk_cell h 2⟩

/-- Six cells of one block written. -/
def set6 (w : World) (g : Nat) (y0 y1 y2 y3 y4 y5 : Value) : World :=
  (((((w.setCell ⟨g, 0, none⟩ y0).setCell ⟨g, 1, none⟩ y1).setCell ⟨g, 2, none⟩ y2).setCell ⟨g, 3, none⟩ y3).setCell ⟨g, 4, none⟩ y4).setCell ⟨g, 5, none⟩ y5
theorem set6_heap {w : World} {g : Nat} {x0 x1 x2 x3 x4 x5 : Value} {e : TypeId} (h : w.heap[g]? = some (.cells #[x0, x1, x2, x3, x4, x5] e (0, 0))) (y0 y1 y2 y3 y4 y5 : Value) :
    (set6 w g y0 y1 y2 y3 y4 y5).heap[g]? = some (.cells #[y0, y1, y2, y3, y4, y5] e (0, 0)) := by
  have := blk_set (blk_set (blk_set (blk_set (blk_set (blk_set h 0 y0) 1 y1) 2 y2) 3 y3) 4 y4) 5 y5
  simpa [set6] using this
theorem drew_blk {w : World} {g : Nat} {o : Obj} (h : w.heap[g]? = some o) : w.drew.heap[g]? = some o := h
theorem set6_heap_drew {w : World} {g : Nat} {x0 x1 x2 x3 x4 x5 : Value} {e : TypeId} (h : w.heap[g]? = some (.cells #[x0, x1, x2, x3, x4, x5] e (0, 0))) (y0 y1 y2 y3 y4 y5 : Value) :
    (set6 w g y0 y1 y2 y3 y4 y5).drew.heap[g]? = some (.cells #[y0, y1, y2, y3, y4, y5] e (0, 0)) := drew_blk (set6_heap h y0 y1 y2 y3 y4 y5)
theorem set6_fr {w0 w : World} {g : Nat} (h : Fr w0 w) (hg : w0.heap.size ≤ g) (y0 y1 y2 y3 y4 y5 : Value) : Fr w0 (set6 w g y0 y1 y2 y3 y4 y5) :=
  (((((h.set hg y0).set hg y1).set hg y2).set hg y3).set hg y4).set hg y5
theorem set6_mv {S : Nat → Prop} {w0 w : World} {g : Nat} (h : Mv S w0 w) (hg : w0.heap.size ≤ g) (y0 y1 y2 y3 y4 y5 : Value) : Mv S w0 (set6 w g y0 y1 y2 y3 y4 y5) :=
  (((((h.set (.inr hg) y0).set (.inr hg) y1).set (.inr hg) y2).set (.inr hg) y3).set (.inr hg) y4).set (.inr hg) y5
theorem set6_mv1 (w : World) (g : Nat) (y0 y1 y2 y3 y4 y5 : Value) : Mv (one1 g) w (set6 w g y0 y1 y2 y3 y4 y5) := by
  have h0 := (Mv.refl (one1 g) w).set (p := ⟨g, 0, none⟩) (.inl (show one1 g g from rfl)) y0
  have h1 := h0.set (p := ⟨g, 1, none⟩) (.inl (show one1 g g from rfl)) y1
  have h2 := h1.set (p := ⟨g, 2, none⟩) (.inl (show one1 g g from rfl)) y2
  have h3 := h2.set (p := ⟨g, 3, none⟩) (.inl (show one1 g g from rfl)) y3
  have h4 := h3.set (p := ⟨g, 4, none⟩) (.inl (show one1 g g from rfl)) y4
  exact h4.set (p := ⟨g, 5, none⟩) (.inl (show one1 g g from rfl)) y5
theorem set6_own {w : World} {g base : Nat} {e : TypeId} {size n c : Nat} {A : Option Addr} {xs : List Value} (h : Own w base e size A n c xs) (hne : ablk A ≠ some g) (y0 y1 y2 y3 y4 y5 : Value) : Own (set6 w g y0 y1 y2 y3 y4 y5) base e size A n c xs :=
  h.mv (set6_mv1 w g y0 y1 y2 y3 y4 y5) (fun k hk e => hne (by rw [hk]; rw [show k = g from e]))

set_option maxHeartbeats 1000000 in
theorem jordered_rank (g b : Nat) (most : Int) (L : List Pr) (k v : Int) (w : World) (hJ : IsJ w g b most L) (hL : L.length ≤ 1099511627776) :
    Calls Try.prog 26 #[.pointer (some ⟨g, 0, none⟩), .agg #[.int .i64 6, .int .u64 k, .int .u64 v]] w fun e w' => e = .returned (.agg #[.int .i64 0, .bool false, .int .u64 0, .int .u64 0, .int .i64 (rk L k : Nat), .slice none 0 0]) ∧ Fr w w' := by
  have HJ := Lib.hid hJ
  have hU := Lib.hid hJ.2.2.1
  have hlt := hJ.lt
  clear hJ
  go_enter Try.func26, Try.ntmps26
  go_wp2_with fail
  refine (jkeys_calls g b most L _ (HJ.out.fr (fr2 w _ _)) hL).mono ?_
  rintro e w1 ⟨A, c, rfl, ho, hf⟩
  have ha := hf.blk (alloc2_snd w _ _)
  obtain ⟨o0, o1, o2⟩ := op_cells (hf.blk (alloc2_fst w _ _))
  obtain ⟨a0, a1, a2, a3, a4, a5, f0, f1, f2, f3, f4, f5⟩ := ans_cells ha
  have hr := Lib.hid ho.rd
  have hff := Lib.hid ((fr2 w _ _).trans hf)
  have HA := Lib.hid ha
  clear hf ho ha
  go_wp2_with fail
  refine (bsearch_calls A L.length c L k w1 rfl hU.out hL hr.out).mono ?_
  rintro e w2 ⟨rfl, rfl⟩
  go_wp2_with fail
  exact bodyPost_ret (results_cell_row rfl _ _ (w.heap.size + 1) _ _ (0, 0) _ rfl (set6_heap HA.out _ _ _ _ _ _) Try.underlying44 rfl (by kernel_rfl)) rfl ⟨rfl, set6_fr hff.out (by omega) _ _ _ _ _ _⟩
theorem owns_heap {w w' : World} {b n : Nat} {D : DataW Unit} (e : w'.heap = w.heap) (h : w.ownsMap Try.prog 31 rdE b n D) : w'.ownsMap Try.prog 31 rdE b n D := by
  obtain ⟨es, clock, hb, F⟩ := h
  exact ⟨es, clock, by rw [e]; exact hb, F⟩
theorem owns_fr {w w' : World} {b n : Nat} {D : DataW Unit} (e : Fr w w') (h : w.ownsMap Try.prog 31 rdE b n D) : w'.ownsMap Try.prog 31 rdE b n D := by
  obtain ⟨es, clock, hb, F⟩ := h
  exact ⟨es, clock, e.blk hb, F⟩

end Go.Proofs.Ytjannhphmemenaa
