/- Parts of this proof, one behind the other: Wrap, Open, Bulk. -/
import Derived.ProofKit
import Derived.OpenShut
import Derived.JoinedCond
import Derived.Test.YthjimnmgbcckjaaGreatRows
import Derived.Test.YthjimnmgbcckjaaGreatQA
namespace Go.Inc
open Go.RowKit Go.ChangeShapes Go.WideShapes Go.ChangeAt

theorem trodAll_below {H : Type} {enc : TypeId × Value → H} {P : Program} (hl : laidOutB P = true) {W W' : World} (hb : Below W.heap.size W W') :
    ∀ (ts : List TypeId) (vs : List Value) (ds : List (DataW H)) (ps : List MemPlace), (∀ t ∈ ts, P.readableRec t = true ∧ t < P.types.size) → DataW.TrodAll enc P W 0 (fun _ => true) true ts vs ds ps →
      DataW.TrodAll enc P W' 0 (fun b => decide (b < W.heap.size)) true ts vs ds ps
  | [], [], [], _, _, h => h
  | [], [], _ :: _, _, _, h => h.elim
  | [], _ :: _, _, _, _, h => h.elim
  | _ :: _, [], _, _, _, h => h.elim
  | _ :: _, _ :: _, [], _, _, h => h.elim
  | t :: ts, v :: vs, d :: ds, ps, hr, h => by
    obtain ⟨p, q, h1, h2, rfl⟩ := h
    have hlt : ∀ x ∈ p, x.block < W.heap.size := by obtain ⟨m, hm⟩ := h1; exact DataW.trod_lt m _ _ _ hm
    exact ⟨p, q, Below.trod hl (hr t (by simp)).1 (hr t (by simp)).2 h1 hb hlt, trodAll_below hl hb ts vs ds q (fun t ht => hr t (by simp [ht])) h2, rfl⟩

theorem trodAll_len {H : Type} {enc : TypeId × Value → H} {P : Program} {W : World} {b : Nat} {sp : Nat → Bool} {hd : Bool} :
    ∀ (ts : List TypeId) (vs : List Value) (ds : List (DataW H)) (ps : List MemPlace), DataW.TrodAll enc P W b sp hd ts vs ds ps → ds.length = ts.length
  | [], [], [], _, _ => rfl
  | [], [], _ :: _, _, h => h.elim
  | [], _ :: _, _, _, h => h.elim
  | _ :: _, [], _, _, h => h.elim
  | _ :: _, _ :: _, [], _, h => h.elim
  | _ :: ts, _ :: vs, _ :: ds, _, h => by
    obtain ⟨p, q, _, h2, _⟩ := h
    simp [trodAll_len ts vs ds q h2]

/-- THE POST OF A LAW's ROW: one result, true; the arguments read as they did. -/
theorem law_post {H : Type} {enc : TypeId × Value → H} {P : Program} {f : Func} {s : ChangeSpec} (hl : laidOutB P = true) (hv : s.vars = []) (tb : TypeId) (hrt : f.resultTypes = #[tb]) (htb : P.underlying tb = some .bool)
    (hfn : ∀ ds : List (DataW H), ds.length = f.params.toList.length → s.fn H (ds ++ []) = { results := [.lit (.bool true)], args := ds })
    (hr : f.params.toList.all (fun t => P.readableRec t && decide (t < P.types.size)) = true) {W W' : World} {args : Array Value} {ds gs : List (DataW H)} {before : List MemPlace}
    (hW : DataW.Whole enc P f.params.toList s.vars false W args.toList ds gs before) (hb : Fr W W') :
    s.post enc P f false true false false W args (.bool true) W' := by
  have hW' := hW
  obtain ⟨p, q, hA, hV, rfl, hfz, hnd⟩ := hW
  have hgs : gs = [] ∧ q = [] := by rw [hv] at hV; exact trodVars_none hV
  obtain ⟨rfl, rfl⟩ := hgs
  have hlen := trodAll_len _ _ _ _ hA
  refine ⟨ds, [], p ++ [], [], p, [], hW', ?_, ?_, ?_, ?_, fun h => by cases h⟩
  · rw [hfn ds hlen, hrt]
    exact trodAll_mk1 (shut_bool htb _)
  · rw [hfn ds hlen]
    refine trodAll_below hl hb _ _ _ _ (fun t ht => ?_) hA
    have := List.all_eq_true.1 hr t ht
    simpa using this
  · rw [hfn ds hlen, hv]; exact rfl
  · exact Below.frame hb _

end Go.Inc
namespace Go.Inc
open Go.RowKit Go.ChangeShapes Go.WideShapes Go.ChangeAt

theorem mapM_range {w : World} {a : Addr} {n : Nat} {cs : List Value} (h : (List.range n).mapM (fun i => w.cell? (a.add i)) = some cs) : cs.length = n ∧ ∀ i u, cs[i]? = some u → w.cell? (a.add i) = some u := by
  have key : ∀ (l : List Nat) (cs : List Value), l.mapM (fun i => w.cell? (a.add i)) = some cs → cs.length = l.length ∧ ∀ (i : Nat) (u : Value), cs[i]? = some u → ∃ k, l[i]? = some k ∧ w.cell? (a.add k) = some u := by
    intro l
    induction l with
    | nil => intro cs h; simp at h; subst h; simp
    | cons k l ih =>
      intro cs h
      rw [List.mapM_cons] at h
      cases hk : w.cell? (a.add k) with
      | none => rw [hk] at h; cases h
      | some v =>
        rw [hk] at h
        cases hl : l.mapM (fun i => w.cell? (a.add i)) with
        | none => rw [hl] at h; cases h
        | some vs =>
          rw [hl] at h
          cases h
          obtain ⟨h1, h2⟩ := ih vs hl
          refine ⟨by simp [h1], fun i u hu => ?_⟩
          cases i with
          | zero => simp at hu; subst hu; exact ⟨k, by simp, hk⟩
          | succ i => simp at hu; simpa using h2 i u hu
  obtain ⟨h1, h2⟩ := key _ _ h
  refine ⟨by simpa using h1, fun i u hu => ?_⟩
  obtain ⟨k, hk, hc⟩ := h2 i u hu
  have hi : i < n := by
    rcases Nat.lt_or_ge i n with h | h
    · exact h
    · simp [List.getElem?_eq_none (show (List.range n).length ≤ i by simpa using h)] at hk
  simp [hi] at hk
  subst hk
  exact hc

theorem flat_cells {α : Type} {w : World} {b : Nat} (cellsA : α → List Value) (sz : Nat) (hsz : ∀ x, (cellsA x).length = sz) :
    ∀ (xs : List α) (off : Nat), (∀ (i : Nat) (x : α), xs[i]? = some x → ∀ j u, (cellsA x)[j]? = some u → w.cell? ⟨b, off + i * sz + j, none⟩ = some u) →
      ∀ j u, (xs.flatMap cellsA)[j]? = some u → w.cell? ⟨b, off + j, none⟩ = some u
  | [], _, _, j, u, hu => by simp at hu
  | x :: xs, off, h, j, u, hu => by
    rw [List.flatMap_cons] at hu
    rcases Nat.lt_or_ge j (cellsA x).length with hj | hj
    · rw [List.getElem?_append_left hj] at hu
      have := h 0 x rfl j u hu
      simpa using this
    · rw [List.getElem?_append_right hj] at hu
      have := flat_cells cellsA sz hsz xs (off + sz) (fun i y hy j u hu => by
        have := h (i + 1) y (by simpa using hy) j u hu
        rw [Nat.add_mul, Nat.one_mul] at this
        rw [show off + sz + i * sz + j = off + (i * sz + sz) + j by omega]; exact this) _ u hu
      rw [hsz] at this
      have hs := hsz x
      rw [show off + sz + (j - sz) = off + j by omega] at this
      exact this

section
variable {H : Type} {enc : TypeId × Value → H} {P : Program} {w : World} {spare : Nat → Bool} {held : Bool}

/-- A SLICE OF WHATEVER ELEMENTS: 'hel' reads an element's cells. -/
theorem open_rows {α : Type} (cellsA : α → List Value) (R : α → DataW H → Prop) {t e : TypeId} {sz fuel : Nat} {cs : List Value} {x : DataW H × List MemPlace} (ht : P.underlying t = some (.slice e)) (hc : P.cellsOf e = sz) (hsz0 : 0 < sz) (hsz : ∀ x, (cellsA x).length = sz)
    (hel : ∀ fuel cs d p, DataW.trod enc P w 0 spare held fuel e cs = some (d, p) → ∃ x, cs = cellsA x ∧ R x d)
    (h : DataW.trod enc P w 0 spare held fuel t cs = some x) :
    ∃ A n c xs, cs = [.slice A n c] ∧ n = xs.length ∧ n ≤ c ∧ c ≤ maxLen ∧ RdC w A (xs.flatMap cellsA) ∧
      ((x.1 = .nil ∧ xs = []) ∨ ∃ el sp, x.1 = .slice el sp ∧ el.length = xs.length ∧ ∀ (i : Nat) (y : α), xs[i]? = some y → ∃ d, el[i]? = some d ∧ R y d) := by
  rcases DataW.trod_slice ht h with ⟨rfl, rfl⟩ | ⟨a, len, cap, elems, rest, n, rfl, rfl, rfl, _, hl, hm, hlen, hels, _⟩
  · exact ⟨none, 0, 0, [], rfl, rfl, Nat.le_refl _, by simp [maxLen], .inl rfl, .inl ⟨rfl, rfl⟩⟩
  · subst hc
    have key : ∀ k, k ≤ len → ∃ xs : List α, xs.length = k ∧ ∀ (i : Nat) (y : α), xs[i]? = some y → (∃ d p, elems[i]? = some (d, p) ∧ R y d) ∧ ∀ j u, (cellsA y)[j]? = some u → w.cell? ((a.add (i * P.cellsOf e)).add j) = some u := by
      intro k
      induction k with
      | zero => intro _; exact ⟨[], rfl, fun i y hy => by simp at hy⟩
      | succ k ih =>
        intro hk
        obtain ⟨xs, hxl, hxs⟩ := ih (by omega)
        have hk' := hels k (by omega)
        have hke : k < elems.length := by omega
        rw [List.getElem?_eq_getElem hke] at hk'
        obtain ⟨cs, hcs, htr⟩ := Option.bind_eq_some_iff.1 hk'
        obtain ⟨y, rfl, hy⟩ := hel n cs (elems[k]).1 (elems[k]).2 htr
        unfold World.cells? at hcs
        rw [if_pos (Nat.zero_le _)] at hcs
        obtain ⟨_, hcell⟩ := mapM_range hcs
        refine ⟨xs ++ [y], by simp [hxl], fun i z hz => ?_⟩
        rcases Nat.lt_or_ge i k with hi | hi
        · rw [List.getElem?_append_left (by omega)] at hz
          exact hxs i z hz
        · rw [List.getElem?_append_right (by omega)] at hz
          have h0 : i - xs.length = 0 := by
            rcases Nat.eq_zero_or_pos (i - xs.length) with h | h
            · exact h
            · rw [List.getElem?_eq_none (by simp; omega)] at hz; cases hz
          rw [h0] at hz
          simp at hz
          subst hz
          have hik : i = k := by omega
          subst hik
          exact ⟨⟨_, _, List.getElem?_eq_getElem hke, hy⟩, hcell⟩
    obtain ⟨xs, hxl, hxs⟩ := key len (Nat.le_refl _)
    refine ⟨some a, len, cap, xs, rfl, hxl.symm, hl, hm, ?_, .inr ⟨_, _, rfl, by simp [hxl, hlen], fun i y hy => ?_⟩⟩
    · cases xs with
      | nil => exact .inl rfl
      | cons x0 xs =>
        have h0 := (hxs 0 x0 rfl).2
        obtain ⟨u, hu⟩ : ∃ u, (cellsA x0)[0]? = some u := ⟨_, List.getElem?_eq_getElem (by rw [hsz]; exact hsz0)⟩
        have hc0 := h0 0 u hu
        obtain ⟨b, off, spot⟩ := a
        have hspot : spot = none := by simpa [Addr.add] using World.cell?_spot hc0
        subst hspot
        refine .inr ⟨b, off, rfl, flat_cells cellsA _ hsz (x0 :: xs) off fun i y hy j u hu => ?_⟩
        have := (hxs i y hy).2 j u hu
        rwa [add_plain, add_plain] at this
    · obtain ⟨⟨d, p, hd, hr⟩, _⟩ := hxs i y hy
      exact ⟨d, by rw [List.getElem?_map, hd]; rfl, hr⟩

/-- An element that is an unsigned number. -/
theorem el_u8 {e : TypeId} (he : P.underlying e = some (.int .u8)) : ∀ fuel cs (d : DataW H) p, DataW.trod enc P w 0 spare held fuel e cs = some (d, p) → ∃ x : UInt8, cs = [bv x] ∧ True := by
  intro fuel cs d p h
  obtain ⟨n, rfl, _, wf⟩ := DataW.trod_int he h
  have : 0 ≤ n ∧ n ≤ 255 := by simpa [Lit.wf, IntKind.min, IntKind.max, IntKind.signed, IntKind.bits] using wf
  refine ⟨UInt8.ofNat n.toNat, ?_, trivial⟩
  unfold bv
  rw [UInt8.toNat_ofNat', Nat.mod_eq_of_lt (by omega)]
  congr 2
  omega

end

theorem flat_one {α : Type} (f : α → Value) (xs : List α) : xs.flatMap (fun x => [f x]) = xs.map f := by
  induction xs with
  | nil => rfl
  | cons x xs ih => simp [ih]

end Go.Inc
namespace Go.Proofs.YthjimnmgbcckjaaGreat
open Go.RowKit Go.Inc

theorem bulk_one {H : Type} (d : DataW H) : 1 ≤ Rows.uptoBulk d := by
  cases d with
  | lit l => cases l <;> simp [Rows.uptoBulk]
  | nil => simp [Rows.uptoBulk]
  | ptr d => simp [Rows.uptoBulk]
  | slice elems spare => simp [Rows.uptoBulk]
  | agg parts => simp [Rows.uptoBulk]
  | iface t d => simp [Rows.uptoBulk]
  | map entries => simp [Rows.uptoBulk]
  | held h => simp [Rows.uptoBulk]
theorem bulk_part {H : Type} {d : DataW H} {l : List (DataW H)} (h : d ∈ l) : Rows.uptoBulk d ≤ Rows.uptoBulkAll l := by
  induction l with
  | nil => cases h
  | cons x r ih =>
    simp only [Rows.uptoBulkAll]
    cases List.mem_cons.1 h with
    | inl e => subst e; omega
    | inr e => have := ih e; omega
theorem bulk_len {H : Type} (l : List (DataW H)) : l.length ≤ Rows.uptoBulkAll l := by
  induction l with
  | nil => simp [Rows.uptoBulkAll]
  | cons x r ih => have := bulk_one x; simp only [Rows.uptoBulkAll, List.length_cons]; omega
theorem bulk_slice {H : Type} (elems spare : List (DataW H)) : elems.length + 1 ≤ Rows.uptoBulk (.slice elems spare) := by
  have h1 := bulk_len elems
  simp only [Rows.uptoBulk]
  omega
theorem bulk_small {H : Type} {l : List (DataW H)} (hk : Rows.uptoSmall H l = true) : Rows.uptoBulkAll l ≤ 1048576 := of_decide_eq_true hk

theorem own : ownKnob Tryz.prog.godebug = none := by kernel_rfl
theorem laidOut : laidOutB Tryz.prog = true := by kernel_rfl

/-- What open_rows tells of the datum, as a bound. -/
theorem bulk_rows {H α : Type} {d : DataW H} {xs : List α} {R : α → DataW H → Prop}
    (h : (d = .nil ∧ xs = []) ∨ ∃ el sp, d = .slice el sp ∧ el.length = xs.length ∧ ∀ (i : Nat) (y : α), xs[i]? = some y → ∃ d, el[i]? = some d ∧ R y d) : xs.length + 1 ≤ Rows.uptoBulk d := by
  rcases h with ⟨rfl, rfl⟩ | ⟨el, sp, rfl, hl, _⟩
  · simp [Rows.uptoBulk]
  · rw [← hl]; exact bulk_slice el sp

theorem bulk_elem {H α : Type} {d : DataW H} {xs : List α} {R : α → DataW H → Prop}
    (h : (d = .nil ∧ xs = []) ∨ ∃ el sp, d = .slice el sp ∧ el.length = xs.length ∧ ∀ (i : Nat) (y : α), xs[i]? = some y → ∃ d, el[i]? = some d ∧ R y d) : ∀ y ∈ xs, ∃ d', R y d' ∧ Rows.uptoBulk d' ≤ Rows.uptoBulk d := by
  intro y hy
  obtain ⟨i, hi, rfl⟩ := List.getElem_of_mem hy
  rcases h with ⟨_, rfl⟩ | ⟨el, sp, rfl, _, h⟩
  · simp at hi
  · obtain ⟨d', h1, h2⟩ := h i xs[i] (List.getElem?_eq_getElem hi)
    refine ⟨d', h2, ?_⟩
    have := bulk_part (List.mem_of_getElem? h1)
    simp only [Rows.uptoBulk]
    omega

/-- An element that is an unsigned number of 64 bits. -/
theorem el_u64 {H : Type} {enc : TypeId × Value → H} {P : Program} {w : World} {spare : Nat → Bool} {held : Bool} {e : TypeId} (he : P.underlying e = some (.int .u64)) :
    ∀ fuel cs (d : DataW H) p, DataW.trod enc P w 0 spare held fuel e cs = some (d, p) → ∃ x : Nat, cs = [Value.int .u64 x] ∧ x < 18446744073709551616 := by
  intro fuel cs d p h
  obtain ⟨n, rfl, _, wf⟩ := DataW.trod_int he h
  have : 0 ≤ n ∧ n ≤ 18446744073709551615 := by simpa [Lit.wf, IntKind.min, IntKind.max, IntKind.signed, IntKind.bits] using wf
  obtain ⟨n, rfl⟩ := Int.eq_ofNat_of_zero_le this.1
  exact ⟨n, rfl, by omega⟩
theorem el_i64 {H : Type} {enc : TypeId × Value → H} {P : Program} {w : World} {spare : Nat → Bool} {held : Bool} {e : TypeId} (he : P.underlying e = some (.int .i64)) :
    ∀ fuel cs (d : DataW H) p, DataW.trod enc P w 0 spare held fuel e cs = some (d, p) → ∃ x : Int, cs = [Value.int .i64 x] ∧ -9223372036854775808 ≤ x ∧ x ≤ 9223372036854775807 := by
  intro fuel cs d p h
  obtain ⟨n, rfl, _, wf⟩ := DataW.trod_int he h
  have : -9223372036854775808 ≤ n ∧ n ≤ 9223372036854775807 := by simpa [Lit.wf, IntKind.min, IntKind.max, IntKind.signed, IntKind.bits] using wf
  exact ⟨n, rfl, this⟩

end Go.Proofs.YthjimnmgbcckjaaGreat
