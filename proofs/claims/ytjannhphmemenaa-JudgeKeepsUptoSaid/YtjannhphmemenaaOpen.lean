/- Opening arguments: slices of whatever elements as Lean lists. Of any program. -/
import Derived.Test.YtjannhphmemenaaWrap
namespace Go.Inc
open Go.RowKit Go.ChangeShapes Go.WideShapes Go.ChangeAt

theorem mapM_range {w : World} {a : Addr} {n : Nat} {cs : List Value} (h : (List.range n).mapM (fun i => w.cell? (a.add i)) = some cs) : cs.length = n ∧ ∀ i u, cs[i]? = some u → w.cell? (a.add i) = some u := by
  have key : ∀ (l : List Nat) (cs : List Value), l.mapM (fun i => w.cell? (a.add i)) = some cs → cs.length = l.length ∧ ∀ (i : Nat) (u : Value), cs[i]? = some u → ∃ k, l[i]? = some k ∧ w.cell? (a.add k) = some u := by
    intro l
    induction l with
    | nil => intro cs h; simp at h; subst h; simp
    | cons k l ih =>
      intro cs h
      rw [List.mapM_cons] at h
      cases hk : w.cell? (a.add k) with
      | none => rw [hk] at h; cases h
      | some v =>
        rw [hk] at h
        cases hl : l.mapM (fun i => w.cell? (a.add i)) with
        | none => rw [hl] at h; cases h
        | some vs =>
          rw [hl] at h
          cases h
          obtain ⟨h1, h2⟩ := ih vs hl
          refine ⟨by simp [h1], fun i u hu => ?_⟩
          cases i with
          | zero => simp at hu; subst hu; exact ⟨k, by simp, hk⟩
          | succ i => simp at hu; simpa using h2 i u hu
  obtain ⟨h1, h2⟩ := key _ _ h
  refine ⟨by simpa using h1, fun i u hu => ?_⟩
  obtain ⟨k, hk, hc⟩ := h2 i u hu
  have hi : i < n := by
    rcases Nat.lt_or_ge i n with h | h
    · exact h
    · simp [List.getElem?_eq_none (show (List.range n).length ≤ i by simpa using h)] at hk
  simp [hi] at hk
  subst hk
  exact hc

theorem flat_cells {α : Type} {w : World} {b : Nat} (cellsA : α → List Value) (sz : Nat) (hsz : ∀ x, (cellsA x).length = sz) :
    ∀ (xs : List α) (off : Nat), (∀ (i : Nat) (x : α), xs[i]? = some x → ∀ j u, (cellsA x)[j]? = some u → w.cell? ⟨b, off + i * sz + j, none⟩ = some u) →
      ∀ j u, (xs.flatMap cellsA)[j]? = some u → w.cell? ⟨b, off + j, none⟩ = some u
  | [], _, _, j, u, hu => by simp at hu
  | x :: xs, off, h, j, u, hu => by
    rw [List.flatMap_cons] at hu
    rcases Nat.lt_or_ge j (cellsA x).length with hj | hj
    · rw [List.getElem?_append_left hj] at hu
      have := h 0 x rfl j u hu
      simpa using this
    · rw [List.getElem?_append_right hj] at hu
      have := flat_cells cellsA sz hsz xs (off + sz) (fun i y hy j u hu => by
        have := h (i + 1) y (by simpa using hy) j u hu
        rw [Nat.add_mul, Nat.one_mul] at this
        rw [show off + sz + i * sz + j = off + (i * sz + sz) + j by omega]; exact this) _ u hu
      rw [hsz] at this
      have hs := hsz x
      rw [show off + sz + (j - sz) = off + j by omega] at this
      exact this

section
variable {H : Type} {enc : TypeId × Value → H} {P : Program} {w : World} {spare : Nat → Bool} {held : Bool}

/-- A SLICE OF WHATEVER ELEMENTS: 'hel' reads an element's cells. -/
theorem open_rows {α : Type} (cellsA : α → List Value) (R : α → DataW H → Prop) {t e : TypeId} {sz fuel : Nat} {cs : List Value} {x : DataW H × List MemPlace} (ht : P.underlying t = some (.slice e)) (hc : P.cellsOf e = sz) (hsz0 : 0 < sz) (hsz : ∀ x, (cellsA x).length = sz)
    (hel : ∀ fuel cs d p, DataW.trod enc P w 0 spare held fuel e cs = some (d, p) → ∃ x, cs = cellsA x ∧ R x d)
    (h : DataW.trod enc P w 0 spare held fuel t cs = some x) :
    ∃ A n c xs, cs = [.slice A n c] ∧ n = xs.length ∧ n ≤ c ∧ c ≤ maxLen ∧ RdC w A (xs.flatMap cellsA) ∧
      ((x.1 = .nil ∧ xs = []) ∨ ∃ el sp, x.1 = .slice el sp ∧ el.length = xs.length ∧ ∀ (i : Nat) (y : α), xs[i]? = some y → ∃ d, el[i]? = some d ∧ R y d) := by
  rcases DataW.trod_slice ht h with ⟨rfl, rfl⟩ | ⟨a, len, cap, elems, rest, n, rfl, rfl, rfl, _, hl, hm, hlen, hels, _⟩
  · exact ⟨none, 0, 0, [], rfl, rfl, Nat.le_refl _, by simp [maxLen], .inl rfl, .inl ⟨rfl, rfl⟩⟩
  · subst hc
    have key : ∀ k, k ≤ len → ∃ xs : List α, xs.length = k ∧ ∀ (i : Nat) (y : α), xs[i]? = some y → (∃ d p, elems[i]? = some (d, p) ∧ R y d) ∧ ∀ j u, (cellsA y)[j]? = some u → w.cell? ((a.add (i * P.cellsOf e)).add j) = some u := by
      intro k
      induction k with
      | zero => intro _; exact ⟨[], rfl, fun i y hy => by simp at hy⟩
      | succ k ih =>
        intro hk
        obtain ⟨xs, hxl, hxs⟩ := ih (by omega)
        have hk' := hels k (by omega)
        have hke : k < elems.length := by omega
        rw [List.getElem?_eq_getElem hke] at hk'
        obtain ⟨cs, hcs, htr⟩ := Option.bind_eq_some_iff.1 hk'
        obtain ⟨y, rfl, hy⟩ := hel n cs (elems[k]).1 (elems[k]).2 htr
        unfold World.cells? at hcs
        rw [if_pos (Nat.zero_le _)] at hcs
        obtain ⟨_, hcell⟩ := mapM_range hcs
        refine ⟨xs ++ [y], by simp [hxl], fun i z hz => ?_⟩
        rcases Nat.lt_or_ge i k with hi | hi
        · rw [List.getElem?_append_left (by omega)] at hz
          exact hxs i z hz
        · rw [List.getElem?_append_right (by omega)] at hz
          have h0 : i - xs.length = 0 := by
            rcases Nat.eq_zero_or_pos (i - xs.length) with h | h
            · exact h
            · rw [List.getElem?_eq_none (by simp; omega)] at hz; cases hz
          rw [h0] at hz
          simp at hz
          subst hz
          have hik : i = k := by omega
          subst hik
          exact ⟨⟨_, _, List.getElem?_eq_getElem hke, hy⟩, hcell⟩
    obtain ⟨xs, hxl, hxs⟩ := key len (Nat.le_refl _)
    refine ⟨some a, len, cap, xs, rfl, hxl.symm, hl, hm, ?_, .inr ⟨_, _, rfl, by simp [hxl, hlen], fun i y hy => ?_⟩⟩
    · cases xs with
      | nil => exact .inl rfl
      | cons x0 xs =>
        have h0 := (hxs 0 x0 rfl).2
        obtain ⟨u, hu⟩ : ∃ u, (cellsA x0)[0]? = some u := ⟨_, List.getElem?_eq_getElem (by rw [hsz]; exact hsz0)⟩
        have hc0 := h0 0 u hu
        obtain ⟨b, off, spot⟩ := a
        have hspot : spot = none := by simpa [Addr.add] using World.cell?_spot hc0
        subst hspot
        refine .inr ⟨b, off, rfl, flat_cells cellsA _ hsz (x0 :: xs) off fun i y hy j u hu => ?_⟩
        have := (hxs i y hy).2 j u hu
        rwa [add_plain, add_plain] at this
    · obtain ⟨⟨d, p, hd, hr⟩, _⟩ := hxs i y hy
      exact ⟨d, by rw [List.getElem?_map, hd]; rfl, hr⟩

/-- An element that is an unsigned number. -/
theorem el_u8 {e : TypeId} (he : P.underlying e = some (.int .u8)) : ∀ fuel cs (d : DataW H) p, DataW.trod enc P w 0 spare held fuel e cs = some (d, p) → ∃ x : UInt8, cs = [bv x] ∧ True := by
  intro fuel cs d p h
  obtain ⟨n, rfl, _, wf⟩ := DataW.trod_int he h
  have : 0 ≤ n ∧ n ≤ 255 := by simpa [Lit.wf, IntKind.min, IntKind.max, IntKind.signed, IntKind.bits] using wf
  refine ⟨UInt8.ofNat n.toNat, ?_, trivial⟩
  unfold bv
  rw [UInt8.toNat_ofNat', Nat.mod_eq_of_lt (by omega)]
  congr 2
  omega

end

theorem flat_one {α : Type} (f : α → Value) (xs : List α) : xs.flatMap (fun x => [f x]) = xs.map f := by
  induction xs with
  | nil => rfl
  | cons x xs ih => simp [ih]

end Go.Inc
