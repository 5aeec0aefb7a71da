/- The frame with exceptions: what was there is as it was but for the blocks of a set. Of any program. -/
import Derived.Test.YtjannhphmemenaaMem
import Derived.Deep.RegionHeld3
namespace Go.Inc
open Go.RowKit

/-- What was there is as it was, but for the blocks of S. -/
structure Mv (S : Nat → Prop) (w w' : World) : Prop where
  os : w'.os = w.os
  tape : w'.tape = w.tape
  output : w'.output = w.output
  size : w.heap.size ≤ w'.heap.size
  block : ∀ k, k < w.heap.size → ¬ S k → w'.heap[k]? = w.heap[k]?
/-- One block. -/
def one1 (g : Nat) : Nat → Prop := fun k => k = g
/-- No block. -/
def none0 : Nat → Prop := fun _ => False

section
variable {S T : Nat → Prop} {a b c : World}
theorem Mv.refl (S : Nat → Prop) (w : World) : Mv S w w := ⟨rfl, rfl, rfl, Nat.le_refl _, fun _ _ _ => rfl⟩
theorem Mv.trans (h : Mv S a b) (k : Mv T b c) (hT : ∀ i, T i → S i ∨ a.heap.size ≤ i) : Mv S a c :=
  ⟨k.os.trans h.os, k.tape.trans h.tape, k.output.trans h.output, Nat.le_trans h.size k.size, fun i hi hs =>
    (k.block i (Nat.lt_of_lt_of_le hi h.size) (fun ht => by rcases hT i ht with h1 | h1; exact hs h1; omega)).trans (h.block i hi hs)⟩
theorem Mv.trans' (h : Mv S a b) (k : Mv S b c) : Mv S a c := h.trans k (fun _ h => .inl h)
theorem Mv.mono (h : Mv S a b) (hT : ∀ i, S i → T i ∨ a.heap.size ≤ i) : Mv T a b :=
  ⟨h.os, h.tape, h.output, h.size, fun i hi hs => h.block i hi (fun h1 => by rcases hT i h1 with h2 | h2; exact hs h2; omega)⟩
theorem Mv.of_fr (h : Fr a b) : Mv S a b := ⟨h.os, h.tape, h.output, h.size, fun i hi _ => Below.block h i hi⟩
theorem Mv.of_grown {row : Option Nat} (h : a.grownBy b row) (hr : ∀ k, row = some k → S k ∨ a.heap.size ≤ k) : Mv S a b :=
  ⟨h.os, h.tape, h.output, h.size, fun i hi hs => h.block i hi (fun e => by rcases hr i e.symm with h1 | h1; exact hs h1; omega)⟩
/-- Nothing of the old world is in the set: then it is as it was. -/
theorem Fr.mv {w : World} (h : Fr w a) (k : Mv S a b) (hS : ∀ i, S i → w.heap.size ≤ i) : Fr w b :=
  ⟨k.os.trans (Below.os h), k.tape.trans (Below.tape h), k.output.trans (Below.output h), Nat.le_trans h.size k.size, fun i hi =>
    (k.block i (Nat.lt_of_lt_of_le hi h.size) (fun hs => by have := hS i hs; omega)).trans (Below.block h i hi)⟩
theorem Mv.fr (h : Mv S a b) (hS : ∀ i, S i → a.heap.size ≤ i) : Fr a b := (Fr.refl a).mv h hS
theorem Mv.fr0 (h : Mv none0 a b) : Fr a b := h.fr (fun _ h => h.elim)
theorem Mv.drewN (h : Mv S a b) (n : Nat) : Mv S a (b.drewN n) := h.trans' (Mv.of_fr (fr_drewN b n))
theorem Mv.alloc (h : Mv S a b) (o : Obj) : Mv S a (b.alloc o) := h.trans' (Mv.of_fr ((Fr.refl b).alloc o))
theorem Mv.set (h : Mv S a b) {p : Addr} (hp : S p.block ∨ a.heap.size ≤ p.block) (u : Value) : Mv S a (b.setCell p u) :=
  h.trans (T := one1 p.block) ⟨rfl, rfl, rfl, by simp [World.setCell], fun k _ hk => Below.heap_setCell _ _ _ _ (fun e => hk e)⟩ (fun i hi => by rw [show i = p.block from hi]; exact hp)
theorem Mv.grown {row : Option Nat} (h : Mv S a b) (hg : b.grownBy c row) (hr : ∀ k, row = some k → S k ∨ a.heap.size ≤ k) : Mv S a c :=
  h.trans (T := fun k => row = some k) (Mv.of_grown hg (fun _ h => .inl h)) (fun i hi => hr i hi)
theorem Mv.then (h : Mv S a b) (k : Fr b c) : Mv S a c := h.trans' (Mv.of_fr k)
theorem Mv.drew (h : Mv S a b) : Mv S a b.drew := h.then ((Fr.refl b).drew)
theorem Mv.blk (h : Mv S a b) {g : Nat} {o : Obj} (hg : a.heap[g]? = some o) (hs : ¬ S g) : b.heap[g]? = some o :=
  (h.block g (Array.getElem?_eq_some_iff.1 hg).1 hs).trans hg
theorem Mv.cell (h : Mv S a b) {p : Addr} {v : Value} (hc : a.cell? p = some v) (hs : ¬ S p.block) : b.cell? p = some v := by
  rw [World.cell?_of_block (h.block p.block (World.block_lt_of_cell? a p hc) hs)]; exact hc
theorem RdC.mv {A : Option Addr} {cs : List Value} (h : RdC a A cs) (k : Mv S a b) (hs : ∀ g, ablk A = some g → ¬ S g) : RdC b A cs := by
  rcases h with h | ⟨g, off, hA, h⟩
  · exact .inl h
  · subst hA
    exact .inr ⟨g, off, rfl, fun j u hu => k.cell (h j u hu) (hs g rfl)⟩
theorem Own.mv {base : Nat} {e : TypeId} {size : Nat} {A : Option Addr} {n cp : Nat} {xs : List Value} (h : Own a base e size A n cp xs) (k : Mv S a b) (hs : ∀ g, ablk A = some g → ¬ S g) : Own b base e size A n cp xs := by
  obtain ⟨h1, h2⟩ := h
  refine ⟨h1, ?_⟩
  rcases h2 with h2 | ⟨g, cap, cur, r1, r2, r3, r⟩
  · exact .inl h2
  · injection r1 with r1 r1' r1''
    subst r1; subst r1''
    exact .inr ⟨g, _, cur, rfl, r2, k.blk r3 (hs g rfl), r⟩
theorem Blk.mv {g : Nat} {cs : List Value} {e : TypeId} (h : Blk a g cs e) (k : Mv S a b) (hs : ¬ S g) : Blk b g cs e := k.blk h hs
theorem Own.base {base base' : Nat} {e : TypeId} {size : Nat} {A : Option Addr} {n cp : Nat} {xs : List Value} (h : Own a base e size A n cp xs) (hb : ∀ g, ablk A = some g → base' ≤ g) : Own a base' e size A n cp xs := by
  obtain ⟨h1, h2⟩ := h
  refine ⟨h1, ?_⟩
  rcases h2 with h2 | ⟨g, cap, cur, r1, r2, r⟩
  · exact .inl h2
  · injection r1 with r1 r1' r1''
    subst r1; subst r1''
    exact .inr ⟨g, _, cur, rfl, hb g rfl, r⟩
end

section
variable {P : Program} {ops : Array Oper} {o : Oper} {a : Act} {Q : Exit → Act → World → Prop} {K : Act → World → Prop}
/-- append(s, x...) at a step of a region that draws its order (for go_region_held3's third argument). -/
theorem step_app (hgd : o.guard = none) (s x : Operand) (t : TypeId) (ho : o.op = .call { callee := .builtin .append, args := #[s, x], argTypes := #[t, t] }) (e : TypeId) (z : Value) (size bytes : Nat) (ht : P.underlying t = some (.slice e))
    (hinfo : (P.info? e).map (fun i => (i.zero, i.size, i.bytes)) = some (some z, size, bytes)) (hz : z.cells.size = size) (hsz : 0 < size) (hby : 0 < bytes)
    (base : Nat) {w : World} (A : Option Addr) (n c : Nat) (xs : List Value) (B : Option Addr) (m c' : Nat) (ys : List Value) (hs : a.eval s = .slice A n c) (hx : a.eval x = .slice B m c') (hown : Own w base e size A n c xs) (hys : ys.length = m * size) (hrd : RdC w B ys) (h1 : ∀ u ∈ ys, u.oneCell' = true)
    (hl : (n + m) * bytes ≤ 140737488355328) (hbase : base ≤ w.heap.size)
    (h : ∀ A' c'' w', Hid (Own w' base e size A' (n + m) c'' (xs ++ ys)) → Hid (w.grownBy w' (ablk A)) → Hid (ablk A' = ablk A ∨ ablk A' = some w.heap.size) → K (a.put o.dst (.slice A' (n + m) c'')) w') :
    if Region.wanted o (yielded ops a.tmps) = true then Oper.wp P o a w K Q else K (a.put o.dst undef) w := by
  obtain ⟨A', c'', w', hr, h2, h3, h4⟩ := run_app (P := P) t o.type e z size bytes ht hinfo hz hsz hby base w A n c xs hown B m c' ys hys hrd h1 hl hbase
  have hw : Region.wanted o (yielded ops a.tmps) = true := by simp [Region.wanted, hgd]
  rw [if_pos hw]
  unfold Oper.wp execOp
  simp only [ho, resolve, invoke, builtin, Sem.run_bind, Sem.run_pure, Result.andThen_ok, List.map_toArray, List.map_cons, List.map_nil, hs, hx, hr]
  exact h A' c'' w' h2 h3 h4
end
end Go.Inc
