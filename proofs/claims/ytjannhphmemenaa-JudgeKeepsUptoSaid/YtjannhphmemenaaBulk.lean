/- What the bound of an '..UptoSaid' statement gives. -/
import Derived.Test.YtjannhphmemenaaRows
import Derived.Test.YtjannhphmemenaaOpen
namespace Go.Proofs.Ytjannhphmemenaa
open Go.RowKit Go.Inc

theorem bulk_one {H : Type} (d : DataW H) : 1 ≤ Rows.uptoBulk d := by
  cases d with
  | lit l => cases l <;> simp [Rows.uptoBulk]
  | nil => simp [Rows.uptoBulk]
  | ptr d => simp [Rows.uptoBulk]
  | slice elems spare => simp [Rows.uptoBulk]
  | agg parts => simp [Rows.uptoBulk]
  | iface t d => simp [Rows.uptoBulk]
  | map entries => simp [Rows.uptoBulk]
  | held h => simp [Rows.uptoBulk]
theorem bulk_part {H : Type} {d : DataW H} {l : List (DataW H)} (h : d ∈ l) : Rows.uptoBulk d ≤ Rows.uptoBulkAll l := by
  induction l with
  | nil => cases h
  | cons x r ih =>
    simp only [Rows.uptoBulkAll]
    cases List.mem_cons.1 h with
    | inl e => subst e; omega
    | inr e => have := ih e; omega
theorem bulk_len {H : Type} (l : List (DataW H)) : l.length ≤ Rows.uptoBulkAll l := by
  induction l with
  | nil => simp [Rows.uptoBulkAll]
  | cons x r ih => have := bulk_one x; simp only [Rows.uptoBulkAll, List.length_cons]; omega
theorem bulk_slice {H : Type} (elems spare : List (DataW H)) : elems.length + 1 ≤ Rows.uptoBulk (.slice elems spare) := by
  have h1 := bulk_len elems
  simp only [Rows.uptoBulk]
  omega
theorem bulk_small {H : Type} {l : List (DataW H)} (hk : Rows.uptoSmall H l = true) : Rows.uptoBulkAll l ≤ 1048576 := of_decide_eq_true hk

theorem own : ownKnob Try.prog.godebug = none := by kernel_rfl
theorem laidOut : laidOutB Try.prog = true := by kernel_rfl

/-- What open_rows tells of the datum, as a bound. -/
theorem bulk_rows {H α : Type} {d : DataW H} {xs : List α} {R : α → DataW H → Prop}
    (h : (d = .nil ∧ xs = []) ∨ ∃ el sp, d = .slice el sp ∧ el.length = xs.length ∧ ∀ (i : Nat) (y : α), xs[i]? = some y → ∃ d, el[i]? = some d ∧ R y d) : xs.length + 1 ≤ Rows.uptoBulk d := by
  rcases h with ⟨rfl, rfl⟩ | ⟨el, sp, rfl, hl, _⟩
  · simp [Rows.uptoBulk]
  · rw [← hl]; exact bulk_slice el sp

theorem bulk_elem {H α : Type} {d : DataW H} {xs : List α} {R : α → DataW H → Prop}
    (h : (d = .nil ∧ xs = []) ∨ ∃ el sp, d = .slice el sp ∧ el.length = xs.length ∧ ∀ (i : Nat) (y : α), xs[i]? = some y → ∃ d, el[i]? = some d ∧ R y d) : ∀ y ∈ xs, ∃ d', R y d' ∧ Rows.uptoBulk d' ≤ Rows.uptoBulk d := by
  intro y hy
  obtain ⟨i, hi, rfl⟩ := List.getElem_of_mem hy
  rcases h with ⟨_, rfl⟩ | ⟨el, sp, rfl, _, h⟩
  · simp at hi
  · obtain ⟨d', h1, h2⟩ := h i xs[i] (List.getElem?_eq_getElem hi)
    refine ⟨d', h2, ?_⟩
    have := bulk_part (List.mem_of_getElem? h1)
    simp only [Rows.uptoBulk]
    omega

/-- An element that is an unsigned number of 64 bits. -/
theorem el_u64 {H : Type} {enc : TypeId × Value → H} {P : Program} {w : World} {spare : Nat → Bool} {held : Bool} {e : TypeId} (he : P.underlying e = some (.int .u64)) :
    ∀ fuel cs (d : DataW H) p, DataW.trod enc P w 0 spare held fuel e cs = some (d, p) → ∃ x : Nat, cs = [Value.int .u64 x] ∧ x < 18446744073709551616 := by
  intro fuel cs d p h
  obtain ⟨n, rfl, _, wf⟩ := DataW.trod_int he h
  have : 0 ≤ n ∧ n ≤ 18446744073709551615 := by simpa [Lit.wf, IntKind.min, IntKind.max, IntKind.signed, IntKind.bits] using wf
  obtain ⟨n, rfl⟩ := Int.eq_ofNat_of_zero_le this.1
  exact ⟨n, rfl, by omega⟩
theorem el_i64 {H : Type} {enc : TypeId × Value → H} {P : Program} {w : World} {spare : Nat → Bool} {held : Bool} {e : TypeId} (he : P.underlying e = some (.int .i64)) :
    ∀ fuel cs (d : DataW H) p, DataW.trod enc P w 0 spare held fuel e cs = some (d, p) → ∃ x : Int, cs = [Value.int .i64 x] ∧ -9223372036854775808 ≤ x ∧ x ≤ 9223372036854775807 := by
  intro fuel cs d p h
  obtain ⟨n, rfl, _, wf⟩ := DataW.trod_int he h
  have : -9223372036854775808 ≤ n ∧ n ≤ 9223372036854775807 := by simpa [Lit.wf, IntKind.min, IntKind.max, IntKind.signed, IntKind.bits] using wf
  exact ⟨n, rfl, this⟩

end Go.Proofs.Ytjannhphmemenaa
