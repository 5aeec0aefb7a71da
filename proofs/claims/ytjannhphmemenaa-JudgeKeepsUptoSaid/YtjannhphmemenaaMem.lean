/- Plain facts on memory: rows of cells that are read, made, copied, appended to; the frame. Of any program. -/
import Derived.Test.YtjannhphmemenaaBase
import Derived.Laws.CopyOwn
import Derived.Maps.AppendAt
namespace Go.Inc
open Go.RowKit

/-- What was there is as it was. -/
def Fr (w w' : World) : Prop := Below w.heap.size w w'
theorem Fr.refl (w : World) : Fr w w := Below.refl _ _
theorem Fr.trans {a b c : World} (h : Fr a b) (k : Fr b c) : Fr a c := Below.trans h (Below.mono k h.size)
theorem Fr.drewN {a b : World} (h : Fr a b) (n : Nat) : Fr a (b.drewN n) := h.trans ⟨rfl, rfl, rfl, Nat.le_refl _, fun _ _ => rfl⟩
theorem Fr.drew {a b : World} (h : Fr a b) : Fr a b.drew := Below.drew h
theorem Fr.alloc {a b : World} (h : Fr a b) (o : Obj) : Fr a (b.alloc o) := Below.alloc h h.size o
theorem Fr.set {a b : World} (h : Fr a b) {p : Addr} (hp : a.heap.size ≤ p.block) (u : Value) : Fr a (b.setCell p u) := Below.setCell h hp u
theorem Fr.size {a b : World} (h : Fr a b) : a.heap.size ≤ b.heap.size := Below.size h
theorem Fr.blk {a b : World} (h : Fr a b) {g : Nat} {o : Obj} (hg : a.heap[g]? = some o) : b.heap[g]? = some o :=
  (Below.block h g (Array.getElem?_eq_some_iff.1 hg).1).trans hg
theorem Fr.cell {a b : World} (h : Fr a b) {p : Addr} {v : Value} (hc : a.cell? p = some v) : b.cell? p = some v :=
  (Below.cell h (World.block_lt_of_cell? a p hc)).trans hc
theorem Fr.grown {a b c : World} (h : Fr a b) {row : Option Nat} (hg : b.grownBy c row) (hr : ∀ k, row = some k → a.heap.size ≤ k) : Fr a c := Below.grown h hg h.size hr
theorem fr_drewN (w : World) (n : Nat) : Fr w (w.drewN n) := (Fr.refl w).drewN n
/-- A row of cells as an array (a word that simp leaves alone). -/
def arr (l : List Value) : Array Value := l.toArray
theorem arr_size (l : List Value) : (arr l).size = l.length := by simp [arr]
theorem arr_toList (l : List Value) : (arr l).toList = l := by simp [arr]
theorem arr_get (l : List Value) (i : Nat) : (arr l)[i]? = l[i]? := by simp [arr]
theorem arr_set (l : List Value) (i : Nat) (v : Value) : (arr l).setIfInBounds i v = arr (l.set i v) := by simp [arr]
/-- Block g is this row of cells. -/
def Blk (w : World) (g : Nat) (cs : List Value) (e : TypeId) : Prop := w.heap[g]? = some (.cells (arr cs) e (0, 0))
theorem Blk.new (w : World) (cs : List Value) (e : TypeId) : Blk (w.alloc (.cells (arr cs) e)) w.heap.size cs e := heap_alloc_new w _
theorem Blk.lt {w : World} {g : Nat} {cs : List Value} {e : TypeId} (h : Blk w g cs e) : g < w.heap.size := (Array.getElem?_eq_some_iff.1 h).1
theorem Blk.cell {w : World} {g : Nat} {cs : List Value} {e : TypeId} (h : Blk w g cs e) (o : Nat) (v : Value) (hv : cs[o]? = some v) : w.cell? ⟨g, o, none⟩ = some v := by
  unfold Blk at h
  simp [World.cell?, h, arr_get, hv]
theorem Blk.frozen {w : World} {g : Nat} {cs : List Value} {e : TypeId} (h : Blk w g cs e) (o : Nat) : w.frozen? ⟨g, o, none⟩ = false := by
  unfold Blk at h
  simp [World.frozen?, h]
theorem Blk.set {w : World} {g : Nat} {cs : List Value} {e : TypeId} (h : Blk w g cs e) (o : Nat) (v : Value) : Blk (w.setCell ⟨g, o, none⟩ v) g (cs.set o v) e := by
  unfold Blk at *
  rw [← arr_set]
  simp [World.setCell, Array.getElem?_modify, h]
theorem Blk.far {w : World} {g : Nat} {cs : List Value} {e : TypeId} (h : Blk w g cs e) {p : Addr} (hp : p.block ≠ g) (v : Value) : Blk (w.setCell p v) g cs e :=
  (Below.heap_setCell _ _ _ _ (fun e => hp e.symm)).trans h
theorem Blk.fr {w w' : World} {g : Nat} {cs : List Value} {e : TypeId} (h : Blk w g cs e) (hf : Fr w w') : Blk w' g cs e := hf.blk h
theorem Blk.grown {w w' : World} {g : Nat} {cs : List Value} {e : TypeId} (h : Blk w g cs e) {row : Option Nat} (hg : w.grownBy w' row) (hne : some g ≠ row) : Blk w' g cs e := (hg.block g h.lt hne).trans h
theorem Blk.drewN {w : World} {g : Nat} {cs : List Value} {e : TypeId} (h : Blk w g cs e) (n : Nat) : Blk (w.drewN n) g cs e := h
theorem Blk.alloc {w : World} {g : Nat} {cs : List Value} {e : TypeId} (h : Blk w g cs e) (o : Obj) : Blk (w.alloc o) g cs e := h.fr ((Fr.refl w).alloc o)
theorem blk_new (w : World) (o : Obj) : (w.alloc o).heap[w.heap.size]? = some o := heap_alloc_new w o
theorem blk_lt {w : World} {g : Nat} {o : Obj} (h : w.heap[g]? = some o) : g < w.heap.size := (Array.getElem?_eq_some_iff.1 h).1
theorem blk_cell {w : World} {g : Nat} {cs : Array Value} {e : TypeId} {fr : Nat × Nat} (h : w.heap[g]? = some (.cells cs e fr)) (o : Nat) : w.cell? ⟨g, o, none⟩ = cs[o]? := by
  simp [World.cell?, h]
theorem blk_frozen {w : World} {g : Nat} {cs : Array Value} {e : TypeId} (h : w.heap[g]? = some (.cells cs e (0, 0))) (o : Nat) : w.frozen? ⟨g, o, none⟩ = false := by
  simp [World.frozen?, h]
theorem blk_set {w : World} {g : Nat} {cs : Array Value} {e : TypeId} {fr : Nat × Nat} (h : w.heap[g]? = some (.cells cs e fr)) (o : Nat) (v : Value) :
    (w.setCell ⟨g, o, none⟩ v).heap[g]? = some (.cells (cs.setIfInBounds o v) e fr) := by
  simp [World.setCell, Array.getElem?_modify, h]
theorem blk_set_ne {w : World} {g : Nat} {ob : Obj} (h : w.heap[g]? = some ob) {p : Addr} (hp : p.block ≠ g) (v : Value) : (w.setCell p v).heap[g]? = some ob := by
  rw [Below.heap_setCell _ _ _ _ (fun e => hp e.symm)]; exact h

theorem add_plain (b o j : Nat) : (⟨b, o, none⟩ : Addr).add j = ⟨b, o + j, none⟩ := by unfold Addr.add; split <;> simp_all

/-! ### rows that are read -/
/-- From this address on these cells stand. -/
def RdC (w : World) (A : Option Addr) (cs : List Value) : Prop := cs = [] ∨ ∃ b off, A = some ⟨b, off, none⟩ ∧ ∀ j u, cs[j]? = some u → w.cell? ⟨b, off + j, none⟩ = some u
theorem RdC.nil (w : World) (A : Option Addr) : RdC w A [] := .inl rfl
theorem RdC.fr {w w' : World} {A : Option Addr} {cs : List Value} (h : RdC w A cs) (hf : Fr w w') : RdC w' A cs := by
  rcases h with h | ⟨b, off, hA, h⟩
  · exact .inl h
  · exact .inr ⟨b, off, hA, fun j u hu => hf.cell (h j u hu)⟩
theorem RdC.at {w : World} {A : Option Addr} {cs : List Value} (h : RdC w A cs) (hne : 0 < cs.length) : ∃ b off, A = some ⟨b, off, none⟩ ∧ ∀ j u, cs[j]? = some u → w.cell? ⟨b, off + j, none⟩ = some u := by
  rcases h with h | h
  · simp [h] at hne
  · exact h
theorem RdC.of_blk {w : World} {g : Nat} {cs : Array Value} {e : TypeId} {fr : Nat × Nat} (h : w.heap[g]? = some (.cells cs e fr)) : RdC w (some ⟨g, 0, none⟩) cs.toList := by
  refine .inr ⟨g, 0, rfl, fun j u hu => ?_⟩
  rw [Nat.zero_add, blk_cell h]
  simpa using hu
theorem RdC.take {w : World} {A : Option Addr} {cs : List Value} (h : RdC w A cs) (n : Nat) : RdC w A (cs.take n) := by
  rcases h with h | ⟨b, off, hA, h⟩
  · exact .inl (by simp [h])
  · refine .inr ⟨b, off, hA, fun j u hu => h j u ?_⟩
    rw [List.getElem?_take] at hu
    split at hu
    · exact hu
    · cases hu
theorem RdC.drop {w : World} {b off : Nat} {cs : List Value} (h : RdC w (some ⟨b, off, none⟩) cs) (n : Nat) : RdC w (some ⟨b, off + n, none⟩) (cs.drop n) := by
  rcases h with h | ⟨b', off', hA, h⟩
  · exact .inl (by simp [h])
  · injection hA with hA
    injection hA with h1 h2
    subst h1; subst h2
    refine .inr ⟨b, off + n, rfl, fun j u hu => ?_⟩
    rw [List.getElem?_drop] at hu
    rw [Nat.add_assoc]
    exact h _ _ hu
theorem RdC.of_own {w : World} {base : Nat} {e : TypeId} {size n : Nat} {A : Option Addr} {c : Nat} {xs : List Value} (h : w.ownsRow base e size (.slice A n c) n xs) : RdC w A xs := by
  rcases h.2 with ⟨h1, h2⟩ | ⟨g, cap, cur, h1, _, hh, _, _, _, ht⟩
  · have := h.1
    rw [h2] at this
    exact .inl (List.eq_nil_of_length_eq_zero (by simpa using this))
  · injection h1 with h1 _ _
    subst h1
    have := (RdC.of_blk hh).take (n * size)
    rwa [ht] at this

theorem RdC.blk {w : World} {g : Nat} {cs : List Value} {e : TypeId} (h : Blk w g cs e) : RdC w (some ⟨g, 0, none⟩) cs := by
  have := RdC.of_blk h
  rwa [arr_toList] at this
theorem RdC.get {w : World} {b off : Nat} {cs : List Value} (h : RdC w (some ⟨b, off, none⟩) cs) (j : Nat) (v : Value) (hv : cs[j]? = some v) : w.cell? ⟨b, off + j, none⟩ = some v := by
  rcases h with h | ⟨b', off', hA, h⟩
  · simp [h] at hv
  · injection hA with hA
    injection hA with h1 h2
    subst h1; subst h2
    exact h j v hv

theorem get_rep {α : Type} (l : List α) (n : Nat) (z : α) (j : Nat) (h1 : l.length ≤ j) (h2 : j < l.length + n) : (l ++ List.replicate n z)[j]? = some z := by
  rw [List.getElem?_append_right h1, List.getElem?_replicate, if_pos (by omega)]
theorem set_rep {α : Type} (l : List α) (n : Nat) (z v : α) (j : Nat) (h1 : l.length = j) : (l ++ List.replicate (n + 1) z).set j v = (l ++ [v]) ++ List.replicate n z := by
  subst h1
  rw [List.set_append_right _ _ (Nat.le_refl _), Nat.sub_self, List.replicate_succ, List.set_cons_zero]
  simp

theorem RdC.grown {w w' : World} {A : Option Addr} {cs : List Value} (h : RdC w A cs) {row : Option Nat} (hg : w.grownBy w' row) (hne : A.map (·.block) ≠ row) : RdC w' A cs := by
  rcases h with h | ⟨b, off, hA, h⟩
  · exact .inl h
  · refine .inr ⟨b, off, hA, fun j u hu => ?_⟩
    subst hA
    exact hg.cell (h j u hu) hne
theorem RdC.far {w : World} {A : Option Addr} {cs : List Value} (h : RdC w A cs) {p : Addr} (hp : A.map (·.block) ≠ some p.block) (v : Value) : RdC (w.setCell p v) A cs := by
  rcases h with h | ⟨b, off, hA, h⟩
  · exact .inl h
  · refine .inr ⟨b, off, hA, fun j u hu => ?_⟩
    subst hA
    rw [World.cell?_of_block (w := w) (Below.heap_setCell _ _ _ _ (fun e => hp (by simp at e; simp [e])))]
    exact h j u hu

theorem flat_len {α β : Type} (f : α → List β) (sz : Nat) (hsz : ∀ x, (f x).length = sz) (xs : List α) : (xs.flatMap f).length = xs.length * sz := by
  induction xs with
  | nil => simp
  | cons x xs ih => rw [List.flatMap_cons, List.length_append, ih, hsz, List.length_cons, Nat.add_mul]; omega
theorem get_flat {α β : Type} (f : α → List β) (sz : Nat) (hsz : ∀ x, (f x).length = sz) : ∀ (xs : List α) (i : Nat) (x : α) (j : Nat), xs[i]? = some x → j < sz → (xs.flatMap f)[i * sz + j]? = (f x)[j]?
  | [], _, _, _, h, _ => by simp at h
  | y :: ys, 0, x, j, h, hj => by
    simp at h; subst h
    rw [List.flatMap_cons, Nat.zero_mul, Nat.zero_add, List.getElem?_append_left (by rw [hsz]; exact hj)]
  | y :: ys, i + 1, x, j, h, hj => by
    rw [List.flatMap_cons, List.getElem?_append_right (by rw [hsz, Nat.add_mul]; omega), hsz, Nat.add_mul, show i * sz + 1 * sz + j - sz = i * sz + j by omega]
    exact get_flat f sz hsz ys i x j (by simpa using h) hj

/-- A byte as a cell. -/
def bv (c : UInt8) : Value := .int .u8 c.toNat
/-- A string of bytes. -/
def bstr (l : List UInt8) : ByteArray := ⟨l.toArray⟩
theorem bstr_size (l : List UInt8) : (bstr l).size = l.length := by simp [bstr, ByteArray.size]
theorem bstr_data (l : List UInt8) : (bstr l).data.toList = l := by simp [bstr]
theorem bstr_of (b : ByteArray) : bstr b.data.toList = b := by simp [bstr]
theorem bstr_toList (l : List UInt8) : (bstr l).toList = l := ByteArray.toList_mk l
theorem bstr_inj {a b : List UInt8} (h : bstr a = bstr b) : a = b := by rw [← bstr_data a, h, bstr_data]

theorem bv_at (b : ByteArray) (a k : Nat) (h : a + k < b.size) : ((b.data.toList.drop a).map bv)[k]? = some (.int .u8 (bt b (a + k) : Nat)) := by
  have h' : a + k < b.data.toList.length := by simpa using h
  rw [List.getElem?_map, List.getElem?_drop, List.getElem?_eq_getElem h', Option.map_some]
  unfold bv bt
  rw [List.getD_eq_getElem?_getD, List.getElem?_eq_getElem h']
  rfl

section
variable {P : Program}

theorem run_str (src e dst : TypeId) (hs : P.underlying src = some (.slice e)) (he : P.underlying e = some (.int .u8)) (hd : P.underlying dst = some .string)
    (w : World) (A : Option Addr) (n c : Nat) (bs : List UInt8) (hn : n = bs.length) (h : RdC w A (bs.map bv)) :
    (convert src dst (.slice A n c)).run P w = .ok (.string (bstr bs)) w := by
  subst hn
  have hstr : strOfNums (bs.map fun b : UInt8 => (b.toNat : Int)) = bstr bs := by
    unfold strOfNums bstr
    congr 2
    rw [List.map_map]
    conv => rhs; rw [← List.map_id bs]
    apply List.map_congr_left
    intro b _
    simp
  rcases bs with _ | ⟨b0, bs⟩
  · rcases A with _ | a
    · rw [run_convert_bytes_nil w src e hs he _ c dst hd]; rfl
    · show (convert src dst (.slice (some a) 0 c)).run P w = _
      rw [run_convert_bytes_string w src dst e _ 0 c hs he hd]
      have hl : (loadCells a 0).run P w = .ok #[] w := by simpa using run_loadCells_list (P := P) w a [] (by simp)
      have := run_bytesToString (P := P) w a 0 c [] (by simpa using hl)
      rw [this]; rfl
  · obtain ⟨b, off, rfl, hc⟩ := h.at (by simp)
    rw [run_convert_bytes_arg w src e hs he b off _ c ((b0 :: bs).map fun b : UInt8 => (b.toNat : Int)) (by simp) (fun i hi => ?_) dst hd, hstr]
    have hi' : i < (b0 :: bs).length := hi
    refine hc i _ ?_
    rw [List.getElem?_map, List.getElem?_eq_getElem hi', List.getD_eq_getElem?_getD, List.getElem?_map, List.getElem?_eq_getElem hi']
    rfl

/-- The block of a slice's array. -/
def ablk (A : Option Addr) : Option Nat := A.map (·.block)

/-- 'xs[l:]' of a slice: the address behind an unknown name. -/
theorem run_cut_l (t e : TypeId) (size : Nat) (ht : P.underlying t = some (.slice e)) (hs : (P.info? e).map (·.size) = some size)
    (A : Option Addr) (n c l : Nat) (i : Int) (hi : i = l) (hl : l ≤ n) (hn : n ≤ c) (k : IntKind) :
    ∃ A', (∀ w, (Instr.slice t (.slice A n c) (some (.int k i)) none none).run P w = .ok (.slice A' (n - l) (c - l)) w) ∧ ablk A' = ablk A ∧
      ∀ w cs, cs.length = n * size → RdC w A cs → RdC w A' (cs.drop (l * size)) := by
  subst hi
  obtain ⟨i0, hi0, hsz⟩ := Option.map_eq_some_iff.1 hs
  refine ⟨if c = l then A else A.map (·.add (l * size)), fun w => ?_, ?_, fun w cs hlen h => ?_⟩
  · simp [Instr.slice, run_underlying ht, Instr.sliceBounds, run_sliceBound, sizeOf, typeInfo, hi0, hsz, hl]
  · unfold ablk
    split
    · rfl
    · cases A with
      | none => rfl
      | some a => simp only [Option.map_some, Addr.add]; split <;> rfl
  · split
    · rename_i hc
      have : n ≤ l := by omega
      have h2 : n * size ≤ l * size := Nat.mul_le_mul_right _ this
      exact .inl (List.drop_eq_nil_of_le (by omega))
    · rcases A with _ | a
      · rcases h with h | ⟨b, off, hA, _⟩
        · exact .inl (by simp [h])
        · cases hA
      · rcases h with h | ⟨b, off, hA, h⟩
        · exact .inl (by simp [h])
        · injection hA with hA
          subst hA
          simp only [Option.map_some, add_plain]
          exact (show RdC w (some ⟨b, off, none⟩) cs from .inr ⟨b, off, rfl, h⟩).drop _

/-- 'xs[:h]'. -/
theorem run_cut_h (t e : TypeId) (size : Nat) (ht : P.underlying t = some (.slice e)) (hs : (P.info? e).map (·.size) = some size)
    (A : Option Addr) (n c h : Nat) (i : Int) (hi : i = h) (hh : h ≤ c) (k : IntKind) :
    ∃ A', (∀ w, (Instr.slice t (.slice A n c) none (some (.int k i)) none).run P w = .ok (.slice A' h c) w) ∧ ablk A' = ablk A ∧ ∀ w cs, RdC w A cs → RdC w A' cs := by
  subst hi
  obtain ⟨i0, hi0, _⟩ := Option.map_eq_some_iff.1 hs
  refine ⟨if c = 0 then A else A.map (·.add (0 * size)), fun w => ?_, ?_, fun w cs h => ?_⟩
  · simp [Instr.slice, run_underlying ht, Instr.sliceBounds, run_sliceBound, sizeOf, typeInfo, hi0, hh]
  · unfold ablk
    split
    · rfl
    · cases A with
      | none => rfl
      | some a => simp [Addr.add]
  · split
    · exact h
    · cases A with
      | none => exact h
      | some a => simpa [Addr.add] using h

/-- 'xs[l:h]'. -/
theorem run_cut_lh (t e : TypeId) (size : Nat) (ht : P.underlying t = some (.slice e)) (hs : (P.info? e).map (·.size) = some size)
    (A : Option Addr) (n c l h : Nat) (i j : Int) (hi : i = l) (hj : j = h) (hl : l ≤ h) (hh : h ≤ c) (k k' : IntKind) :
    ∃ A', (∀ w, (Instr.slice t (.slice A n c) (some (.int k i)) (some (.int k' j)) none).run P w = .ok (.slice A' (h - l) (c - l)) w) ∧ ablk A' = ablk A ∧
      ∀ w cs, cs.length = n * size → h ≤ n → RdC w A cs → RdC w A' ((cs.take (h * size)).drop (l * size)) := by
  subst hi; subst hj
  obtain ⟨i0, hi0, hsz⟩ := Option.map_eq_some_iff.1 hs
  refine ⟨if c = l then A else A.map (·.add (l * size)), fun w => ?_, ?_, fun w cs hlen hhn hrd => ?_⟩
  · simp [Instr.slice, run_underlying ht, Instr.sliceBounds, run_sliceBound, sizeOf, typeInfo, hi0, hsz, hl, hh]
  · unfold ablk
    split
    · rfl
    · cases A with
      | none => rfl
      | some a => simp only [Option.map_some, Addr.add]; split <;> rfl
  · split
    · rename_i hc
      refine .inl (List.drop_eq_nil_of_le ?_)
      have : h * size ≤ l * size := Nat.mul_le_mul_right _ (by omega)
      rw [List.length_take]; omega
    · rcases A with _ | a
      · rcases hrd with h | ⟨b, off, hA, _⟩
        · exact .inl (by simp [h])
        · cases hA
      · rcases hrd with h | ⟨b, off, hA, h⟩
        · exact .inl (by simp [h])
        · injection hA with hA
          subst hA
          simp only [Option.map_some, add_plain]
          exact ((show RdC w (some ⟨b, off, none⟩) cs from .inr ⟨b, off, rfl, h⟩).take _).drop _

/-- make([]T, n) of one-cell elements. -/
theorem run_mk1 (t e : TypeId) (z : Value) (bytes : Nat) (ht : P.underlying t = some (.slice e)) (hinfo : (P.info? e).map (fun i => (i.zero, i.size, i.bytes)) = some (some z, 1, bytes)) (hz : z.cells = #[z])
    (w : World) (i : Int) (n : Nat) (hi : i = n) (hb : bytes * n ≤ 281474976710656) (h63 : n ≤ 9223372036854775807) :
    (Instr.makeSlice t (.int .i64 i) (.int .i64 i)).run P w = .ok (.slice (some ⟨w.heap.size, 0, none⟩) n n) (w.alloc (.cells (arr (List.replicate n z)) e)) := by
  subst hi
  obtain ⟨i0, hi, hzz⟩ := Option.map_eq_some_iff.1 hinfo
  simp only [Prod.mk.injEq] at hzz
  obtain ⟨hz0, hz1, hz2⟩ := hzz
  have hb' : (i0.bytes : Int) * (n : Int) ≤ 281474976710656 := by
    rw [hz2, ← Int.natCast_mul]; omega
  have hr := run_make (P := P) w t e i0 z ht hi hz0 .i64 .i64 n n (by omega) (Int.le_refl _) hb' (by omega)
  simp only [Int.toNat_natCast, hz1, hz, Nat.mul_one] at hr
  rw [hr]
  congr 3
  have := toList_madeCells_one z n
  rw [arr, ← this]

/-- copy(dst, src), dst the head of a block: what it reads is written over the head. -/
theorem run_copy1 (dT sT ty e : TypeId) (hu : P.underlying dT = some (.slice e)) (hs : (P.info? e).map (·.size) = some 1)
    (w : World) (g dLen dCap : Nat) (A : Option Addr) (n c : Nat) (cs cur : List Value) (hn : n = cs.length) (hle : n ≤ dLen) (hcur : cs.length ≤ cur.length) (hg : Blk w g cur e) (h : RdC w A cs) (h1 : ∀ v ∈ cs, v.oneCell' = true) :
    ∃ w', (Builtin.copy_ #[dT, sT] ty #[.slice (some ⟨g, 0, none⟩) dLen dCap, .slice A n c]).run P w = .ok (goInt n) w' ∧ Blk w' g (cs ++ cur.drop cs.length) e ∧ w.grownBy w' (some g) ∧ w'.heap.size = w.heap.size := by
  subst hn
  rcases Nat.eq_zero_or_pos cs.length with h0 | h0
  · obtain rfl := List.eq_nil_of_length_eq_zero h0
    refine ⟨w, run_copy_none w dT sT ty e _ _ _ _ _ _ hu hs (by simp), by simpa using hg, World.grownBy.refl _ _, rfl⟩
  · obtain ⟨b, off, rfl, hc⟩ := h.at h0
    have hr := run_copy_cells (P := P) w dT sT ty e g 0 dLen dCap ⟨b, off, none⟩ cs.length c cs hu hs (Nat.min_eq_left hle).symm (fun j u hj => by rw [add_plain]; exact hc j u hj)
      (fun j hj => by rw [Nat.zero_add, hg.cell j cur[j] (List.getElem?_eq_getElem (by omega))]; rfl) (fun j _ => hg.frozen _) h1
    refine ⟨_, hr, ?_, ?_, ?_⟩
    · have : ∀ (vs : List Value) (o : Nat) (w : World) (cur : List Value), Blk w g cur e → o + vs.length ≤ cur.length →
          Blk (w.setCells g o vs) g (cur.take o ++ vs ++ cur.drop (o + vs.length)) e := by
        intro vs
        induction vs with
        | nil => intro o w cur hg _; simpa [World.setCells] using hg
        | cons v vs ih =>
          intro o w cur hg hl
          simp only [List.length_cons] at hl
          have := ih (o + 1) _ _ (hg.set o v) (by simp; omega)
          rw [World.setCells]
          have ho : o < cur.length := by omega
          have e1 : (cur.set o v).take (o + 1) ++ vs ++ (cur.set o v).drop (o + 1 + vs.length) = cur.take o ++ v :: vs ++ cur.drop (o + (v :: vs).length) := by
            have e2 : (List.take o cur ++ [cur[o]]).set o v = List.take o cur ++ [v] := by
              rw [List.set_append_right _ _ (by simp; omega)]
              have : o - (List.take o cur).length = 0 := by rw [List.length_take]; omega
              rw [this]; rfl
            rw [List.take_set, List.drop_set, if_pos (by omega), List.take_succ_eq_append_getElem ho, e2, List.length_cons, show o + (vs.length + 1) = o + 1 + vs.length by omega]
            simp
          rwa [e1] at this
      have := this cs 0 w cur hg (by omega)
      simpa using this
    · have : ∀ (vs : List Value) (o : Nat) (w : World), w.grownBy (w.setCells g o vs) (some g) := by
        intro vs
        induction vs with
        | nil => intro o w; exact World.grownBy.refl _ _
        | cons v vs ih =>
          intro o w
          have h1 : w.grownBy (w.setCell ⟨g, o, none⟩ v) (some g) := ⟨rfl, rfl, rfl, by simp [World.setCell], fun k hk hne => Below.heap_setCell w ⟨g, o, none⟩ v k (fun e => hne (by rw [e]))⟩
          exact World.grownBy.trans h1 (ih (o + 1) _)
      exact this cs 0 w
    · have : ∀ (vs : List Value) (o : Nat) (w : World), (w.setCells g o vs).heap.size = w.heap.size := by
        intro vs
        induction vs with
        | nil => intro o w; rfl
        | cons v vs ih => intro o w; rw [World.setCells, ih]; simp [World.setCell]
      exact this cs 0 w

/-- A slice of the call's own: elements of 'size' cells each, in a block from base on. -/
def Own (w : World) (base : Nat) (e : TypeId) (size : Nat) (A : Option Addr) (n c : Nat) (xs : List Value) : Prop := w.ownsRow base e size (.slice A n c) n xs
theorem Own.nil (w : World) (base : Nat) (e : TypeId) (size : Nat) : Own w base e size none 0 0 [] := World.ownsRow_nil w base e size
theorem Own.len {w : World} {base : Nat} {e : TypeId} {size : Nat} {A : Option Addr} {n c : Nat} {xs : List Value} (h : Own w base e size A n c xs) : xs.length = n * size := h.1
theorem Own.rd {w : World} {base : Nat} {e : TypeId} {size : Nat} {A : Option Addr} {n c : Nat} {xs : List Value} (h : Own w base e size A n c xs) : RdC w A xs := RdC.of_own h
theorem Own.lt {w : World} {base : Nat} {e : TypeId} {size : Nat} {A : Option Addr} {n c : Nat} {xs : List Value} (h : Own w base e size A n c xs) (k : Nat) (hk : ablk A = some k) : base ≤ k ∧ k < w.heap.size := by
  cases A with
  | none => cases hk
  | some a => exact World.ownsRow.lt h k (by simpa [ablk, Value.ownBlock] using hk)
theorem ownBlock_slice (A : Option Addr) (n c : Nat) : (Value.slice A n c).ownBlock = ablk A := by cases A <;> rfl
theorem Own.grown {w w' : World} {base : Nat} {e : TypeId} {size : Nat} {A : Option Addr} {n c : Nat} {xs : List Value} (h : Own w base e size A n c xs) {row : Option Nat} (hg : w.grownBy w' row) (hne : ablk A = none ∨ ablk A ≠ row) : Own w' base e size A n c xs :=
  World.ownsRow.kept h hg (by rw [ownBlock_slice]; exact hne)
theorem Own.fr {w w' : World} {base : Nat} {e : TypeId} {size : Nat} {A : Option Addr} {n c : Nat} {xs : List Value} (h : Own w base e size A n c xs) (hf : Fr w w') : Own w' base e size A n c xs :=
  h.grown (row := none) ⟨hf.os, hf.tape, hf.output, hf.size, fun i hi _ => hf.block i hi⟩ (by cases ablk A <;> simp)
theorem Own.mono {w : World} {base base' : Nat} {e : TypeId} {size : Nat} {A : Option Addr} {n c : Nat} {xs : List Value} (h : Own w base e size A n c xs) (hb : base' ≤ base) : Own w base' e size A n c xs := by
  obtain ⟨h1, h2⟩ := h
  refine ⟨h1, ?_⟩
  rcases h2 with h2 | ⟨g, cap, cur, r1, r2, r⟩
  · exact .inl h2
  · exact .inr ⟨g, cap, cur, r1, Nat.le_trans hb r2, r⟩
theorem Own.of_blk {w : World} {base g : Nat} {e : TypeId} {size n : Nat} {xs : List Value} (h : Blk w g xs e) (hb : base ≤ g) (hl : xs.length = n * size) (hm : n ≤ 9223372036854775807) : Own w base e size (some ⟨g, 0, none⟩) n n xs :=
  ⟨hl, .inr ⟨g, n, arr xs, rfl, hb, h, Nat.le_refl _, by simpa [maxLen] using hm, by rw [arr_size, hl], by rw [arr_toList, ← hl, List.take_length]⟩⟩

theorem run_app (t ty e : TypeId) (z : Value) (size bytes : Nat) (ht : P.underlying t = some (.slice e)) (hinfo : (P.info? e).map (fun i => (i.zero, i.size, i.bytes)) = some (some z, size, bytes)) (hz : z.cells.size = size) (hsz : 0 < size) (hby : 0 < bytes)
    (base : Nat) (w : World) (A : Option Addr) (n c : Nat) (xs : List Value) (hown : Own w base e size A n c xs) (B : Option Addr) (m c' : Nat) (ys : List Value) (hys : ys.length = m * size) (h : RdC w B ys) (h1 : ∀ u ∈ ys, u.oneCell' = true)
    (hl : (n + m) * bytes ≤ 140737488355328) (hbase : base ≤ w.heap.size) :
    ∃ A' c'' w', (Builtin.append_ #[t, t] ty #[.slice A n c, .slice B m c']).run P w = .ok (.slice A' (n + m) c'') w' ∧ Own w' base e size A' (n + m) c'' (xs ++ ys) ∧ w.grownBy w' (ablk A) ∧ (ablk A' = ablk A ∨ ablk A' = some w.heap.size) := by
  obtain ⟨i0, hi, hzz⟩ := Option.map_eq_some_iff.1 hinfo
  simp only [Prod.mk.injEq] at hzz
  obtain ⟨hz0, hz1, hz2⟩ := hzz
  have hlen : n + m ≤ 140737488355328 := Nat.le_trans (Nat.le_mul_of_pos_right _ hby) hl
  rcases Nat.eq_zero_or_pos m with h0 | h0
  · subst h0
    obtain rfl : ys = [] := List.eq_nil_of_length_eq_zero (by simpa using hys)
    refine ⟨A, c, w, ?_, by simpa using hown, World.grownBy.refl _ _, .inl rfl⟩
    have hl0 : ∀ (x : Addr), (loadCells x 0).run P w = .ok #[] w := fun x => by simpa using run_loadCells_list (P := P) w x [] (by simp)
    have hnc : n ≤ c := by
      rcases hown.2 with ⟨h1, h2⟩ | ⟨g, cap, cur, h1, _, _, h2, _⟩
      · omega
      · injection h1 with _ _ h1; omega
    cases B <;> cases A <;> simp [Builtin.append_, run_underlying ht, sizeOf, typeInfo, hi, Builtin.lenOf, Builtin.firstCells, hnc, storeCells, hl0]
  · obtain ⟨b, off, rfl, hc⟩ := h.at (by rw [hys]; exact Nat.mul_pos h0 hsz)
    obtain ⟨v', w', hr, h2, h3, _, h5⟩ := run_append_own_at (P := P) w base t ty e i0 z size bytes ht hi hz0 hz1 hz2 hz hsz (.slice A n c) n xs hown ⟨b, off, none⟩ m c' ys hys (fun j u hu => by rw [add_plain]; exact hc j u hu) h1 (by simp only [maxLen]; omega) hl hbase
    rcases h2.2 with ⟨_, h6⟩ | ⟨g, cap, cur, rfl, r⟩
    · omega
    · refine ⟨_, _, w', hr, h2, by rw [← ownBlock_slice A n c]; exact h3, ?_⟩
      rw [← ownBlock_slice A n c]
      exact h5

theorem bv_one (l : List UInt8) : ∀ v ∈ l.map bv, v.oneCell' = true := by simp [bv, Value.oneCell']
theorem fr_of_grown {w0 w w' : World} {g : Nat} (h : Fr w0 w) (hg : w.grownBy w' (some g)) (hb : w0.heap.size ≤ g) : Fr w0 w' :=
  h.grown hg (fun k hk => by injection hk with hk; omega)

/-! ### the same at the walk's own goal -/
/-- A goal that the walk does not open. -/
def Gate (p : Prop) : Prop := p
theorem gate {p : Prop} (h : Gate p) : p := h

section
variable {ops : Array Oper} {rest : List Oper} {o : Oper} {a : Act} {Q : Exit → Act → World → Prop}

/-- append(s, x...), s a slice of the call's own. -/
theorem gate_app (hgd : o.guard = none) (s x : Operand) (t : TypeId) (ho : o.op = .call { callee := .builtin .append, args := #[s, x], argTypes := #[t, t] }) (e : TypeId) (z : Value) (size bytes : Nat) (ht : P.underlying t = some (.slice e))
    (hinfo : (P.info? e).map (fun i => (i.zero, i.size, i.bytes)) = some (some z, size, bytes)) (hz : z.cells.size = size) (hsz : 0 < size) (hby : 0 < bytes)
    (base : Nat) {w : World} (A : Option Addr) (n c : Nat) (xs : List Value) (B : Option Addr) (m c' : Nat) (ys : List Value) (hs : a.eval s = .slice A n c) (hx : a.eval x = .slice B m c') (hown : Own w base e size A n c xs) (hys : ys.length = m * size) (hrd : RdC w B ys) (h1 : ∀ u ∈ ys, u.oneCell' = true)
    (hl : (n + m) * bytes ≤ 140737488355328) (hbase : base ≤ w.heap.size)
    (h : ∀ A' c'' w', Hid (Own w' base e size A' (n + m) c'' (xs ++ ys)) → Hid (w.grownBy w' (ablk A)) → Hid (ablk A' = ablk A ∨ ablk A' = some w.heap.size) → wpList P ops Q rest (a.put o.dst (.slice A' (n + m) c'')) w') :
    Gate (wpList P ops Q (o :: rest) a w) := by
  obtain ⟨A', c'', w', hr, h2, h3, h4⟩ := run_app (P := P) t o.type e z size bytes ht hinfo hz hsz hby base w A n c xs hown B m c' ys hys hrd h1 hl hbase
  refine wpList_plain hgd fun K hK => ?_
  unfold Oper.wp execOp
  simp only [ho, resolve, invoke, builtin, Sem.run_bind, Sem.run_pure, Result.andThen_ok, List.map_toArray, List.map_cons, List.map_nil, hs, hx, hr]
  exact hK _ _ (h A' c'' w' h2 h3 h4)
end

end
end Go.Inc
