/- The judge's memory: a map of numbers behind a pointer, as a rising list of pairs. -/
import Derived.Test.YtjannhphmemenaaMv
import Derived.Test.YtjannhphmemenaaJudP
import Derived.Test.YtjannhphmemenaaSrtF
import Derived.Maps.RangeWalk
import Derived.Maps.OwnSet
import Derived.Sort.OwnSortedInts
namespace Go.Proofs.Ytjannhphmemenaa
open Go.RowKit Go.Inc Go.Jud Go.Maps Go.Sort

theorem lawK : Keyed Try.prog 31 := int_keyed Try.underlying31
theorem zeroE (w : World) : (zeroValue 31).run Try.prog w = .ok (.int .u64 0) w := by kernel_rfl
theorem wfU {x : Int} (h : U x) : (Lit.int .u64 x).wf = true := by
  have := h.1; have := h.2
  simp [Lit.wf, IntKind.min, IntKind.max, IntKind.signed, IntKind.bits]; omega
theorem ofWfU {x : Int} (h : (Lit.int .u64 x).wf = true) : U x := by
  have : 0 ≤ x ∧ x ≤ 18446744073709551615 := by simpa [Lit.wf, IntKind.min, IntKind.max, IntKind.signed, IntKind.bits] using h
  exact ⟨this.1, by omega⟩
theorem keyU {x : Int} (h : U x) : keyOf Try.prog 31 (.int .u64 x) = some (.int .u64 x) := keyOf_int_mk Try.underlying31 (wfU h)
/-- The elements' reader. -/
noncomputable abbrev rdE : Value → Option (DataW Unit × List MemPlace) := plainElem Try.prog 31

/-- Block b is the map of just these pairs. -/
def IsM (w : World) (b : Nat) (L : List Pr) : Prop :=
  Up L ∧ InU L ∧ ∃ D : DataW Unit, w.ownsMap Try.prog 31 rdE b L.length D ∧ Maps.size D = L.length ∧
    (∀ x, Maps.has D (.int .u64 x) = true ↔ ∃ v, (x, v) ∈ L) ∧ ∀ p ∈ L, ∀ z, D.atKey (.int .u64 p.1) z = .lit (.int .u64 p.2)
theorem owns_tight {w : World} {b n : Nat} {D : DataW Unit} (h : w.ownsMap Try.prog 31 rdE b n D) : w.ownsMap Try.prog 31 rdE b (Maps.size D) D := by
  obtain ⟨es, clock, hb, F, hs, hD⟩ := h
  refine ⟨es, clock, hb, F, ?_, hD⟩
  rw [hD]; simp [Maps.size, length_sorted]
theorem has_bool {D : DataW Unit} {L : List Pr} (hU : Up L) (h : ∀ x, Maps.has D (.int .u64 x) = true ↔ ∃ v, (x, v) ∈ L) (k : Int) : Maps.has D (.int .u64 k) = isAt L k := by
  rw [Bool.eq_iff_iff, h, isAt_iff hU]
theorem atKey_val {D : DataW Unit} {L : List Pr} (hU : Up L) (h : ∀ x, Maps.has D (.int .u64 x) = true ↔ ∃ v, (x, v) ∈ L) (h2 : ∀ p ∈ L, ∀ z, D.atKey (.int .u64 p.1) z = .lit (.int .u64 p.2)) {k c : Int}
    (hat : D.atKey (.int .u64 k) (.lit (.int .u64 0)) = .lit (.int .u64 c)) : c = valAt L k := by
  cases hi : isAt L k with
  | true =>
    obtain ⟨v, hv, e⟩ := isAt_get hi
    have := h2 _ (List.mem_of_getElem? hv) (.lit (.int .u64 0))
    rw [hat] at this
    simp at this
    rw [e, this]
  | false =>
    have : Maps.has D (.int .u64 k) = false := by rw [has_bool hU h, hi]
    rw [atKey_of_not_has this] at hat
    simp at hat
    rw [valAt_not hi, ← hat]
theorem lit_ne {x k : Int} (h : x ≠ k) : (Lit.int .u64 x) ≠ (Lit.int .u64 k) := fun e => h (by injection e)
theorem keyLit {x : Int} : WideAt.IsKeyLit (.int .u64 x) := by simp [WideAt.IsKeyLit]
/-- A put. -/
theorem IsM.put {w' : World} {b n : Nat} {L : List Pr} {D : DataW Unit} {k v : Int} (hU : Up L) (hI : InU L) (hk : U k) (hv : U v) (hm : IsMap D) (ht : Tidy D) (hsz : Maps.size D = L.length)
    (h1 : ∀ x, Maps.has D (.int .u64 x) = true ↔ ∃ v, (x, v) ∈ L) (h2 : ∀ p ∈ L, ∀ z, D.atKey (.int .u64 p.1) z = .lit (.int .u64 p.2))
    (h : w'.ownsMap Try.prog 31 rdE b n (D.put (.int .u64 k) (.lit (.int .u64 v)))) : IsM w' b (if isAt L k then setL L k v else insL L k v) := by
  have hs : Maps.size (D.put (.int .u64 k) (.lit (.int .u64 v))) = (if isAt L k then setL L k v else insL L k v).length := by
    rw [size_put ht, has_bool hU h1, hsz]
    split
    · rw [len_set]
    · rw [len_ins]
  have h' := owns_tight h
  rw [hs] at h'
  have hmem : ∀ p, p ∈ (if isAt L k then setL L k v else insL L k v) ↔ p = (k, v) ∨ (p.1 ≠ k ∧ p ∈ L) := fun p => by
    split
    · exact mem_set hU (by assumption) p
    · rename_i hn
      rw [mem_ins]
      refine ⟨fun h => h.elim .inl (fun h => .inr ⟨fun e => hn ?_, h⟩), fun h => h.elim .inl (fun h => .inr h.2)⟩
      exact (isAt_iff hU k).2 ⟨p.2, by rw [← e]; exact h⟩
  refine ⟨?_, fun p hp => ?_, _, h', hs, fun x => ?_, fun p hp z => ?_⟩
  · split
    · exact up_set hU (by assumption)
    · exact up_ins hU (by simpa using ‹¬ isAt L k = true›)
  · rcases (hmem p).1 hp with rfl | ⟨_, hp⟩
    · exact ⟨hk, hv⟩
    · exact hI p hp
  · by_cases hx : x = k
    · subst hx
      rw [has_put_same hm keyLit]
      exact ⟨fun _ => ⟨v, (hmem _).2 (.inl rfl)⟩, fun _ => rfl⟩
    · rw [has_put_other (lit_ne hx), h1]
      constructor
      · rintro ⟨u, hu⟩; exact ⟨u, (hmem _).2 (.inr ⟨hx, hu⟩)⟩
      · rintro ⟨u, hu⟩
        rcases (hmem _).1 hu with e | ⟨_, h⟩
        · injection e with e; exact absurd e hx
        · exact ⟨u, h⟩
  · rcases (hmem p).1 hp with rfl | ⟨hne, hp⟩
    · exact atKey_put_same hm keyLit _ _
    · rw [atKey_put_other (lit_ne hne)]; exact h2 p hp z
/-- A delete. -/
theorem IsM.del {w' : World} {b n : Nat} {L : List Pr} {D : DataW Unit} {k : Int} (hU : Up L) (hI : InU L) (ht : Tidy D) (hsz : Maps.size D = L.length)
    (h1 : ∀ x, Maps.has D (.int .u64 x) = true ↔ ∃ v, (x, v) ∈ L) (h2 : ∀ p ∈ L, ∀ z, D.atKey (.int .u64 p.1) z = .lit (.int .u64 p.2))
    (h : w'.ownsMap Try.prog 31 rdE b n (D.del (.int .u64 k))) : IsM w' b (delL L k) := by
  have hs : Maps.size (D.del (.int .u64 k)) = (delL L k).length := by
    have a := size_del (k := .int .u64 k) ht
    have c := len_del L k
    rw [has_bool hU h1, hsz] at a
    omega
  have h' := owns_tight h
  rw [hs] at h'
  refine ⟨up_del hU k, fun p hp => hI p ((mem_del hU k p).1 hp).2, _, h', hs, fun x => ?_, fun p hp z => ?_⟩
  · by_cases hx : x = k
    · subst hx
      rw [has_del_same]
      exact ⟨fun h => (by cases h), fun ⟨u, hu⟩ => absurd rfl ((mem_del hU _ _).1 hu).1⟩
    · rw [has_del_other (lit_ne hx), h1]
      exact ⟨fun ⟨u, hu⟩ => ⟨u, (mem_del hU _ _).2 ⟨hx, hu⟩⟩, fun ⟨u, hu⟩ => ⟨u, ((mem_del hU _ _).1 hu).2⟩⟩
  · obtain ⟨hne, hp⟩ := (mem_del hU k p).1 hp
    rw [atKey_del_other (lit_ne hne)]; exact h2 p hp z
theorem IsM.mv {S : Nat → Prop} {w w' : World} {b : Nat} {L : List Pr} (h : IsM w b L) (k : Mv S w w') (hs : ¬ S b) : IsM w' b L := by
  obtain ⟨a, c, D, h1, r⟩ := h
  obtain ⟨es, clock, hb, F⟩ := h1
  exact ⟨a, c, D, ⟨es, clock, k.blk hb hs, F⟩, r⟩
theorem IsM.lt {w : World} {b : Nat} {L : List Pr} (h : IsM w b L) : b < w.heap.size := by
  obtain ⟨a, c, D, h1, r⟩ := h
  exact h1.lt
theorem isM_made {w' : World} {b : Nat} (h : w'.ownsMap Try.prog 31 rdE b 0 (.map [])) : IsM w' b [] :=
  ⟨List.Pairwise.nil, fun _ h => by simp at h, .map [], h, rfl, fun x => by simp [Maps.has], fun _ h => by simp at h⟩

/-- Block g is a judge, whose map lies in block b. -/
def IsJ (w : World) (g b : Nat) (most : Int) (L : List Pr) : Prop :=
  g ≠ b ∧ w.heap[g]? = some (.cells #[.int .i64 most, .map (some b)] 65 (0, 0)) ∧ IsM w b L
theorem IsJ.c0 {w : World} {g b : Nat} {most : Int} {L : List Pr} (h : IsJ w g b most L) : w.cell? ⟨g, 0, none⟩ = some (.int .i64 most) := by
  simp [World.cell?, h.2.1]
theorem IsJ.c1 {w : World} {g b : Nat} {most : Int} {L : List Pr} (h : IsJ w g b most L) : w.cell? ⟨g, 1, none⟩ = some (.map (some b)) := by
  simp [World.cell?, h.2.1]
theorem IsJ.lt {w : World} {g b : Nat} {most : Int} {L : List Pr} (h : IsJ w g b most L) : g < w.heap.size ∧ b < w.heap.size :=
  ⟨(Array.getElem?_eq_some_iff.1 h.2.1).1, h.2.2.lt⟩
theorem IsJ.mv {S : Nat → Prop} {w w' : World} {g b : Nat} {most : Int} {L : List Pr} (h : IsJ w g b most L) (k : Mv S w w') (hg : ¬ S g) (hb : ¬ S b) : IsJ w' g b most L :=
  ⟨h.1, k.blk h.2.1 hg, h.2.2.mv k hb⟩
theorem IsJ.fr {w w' : World} {g b : Nat} {most : Int} {L : List Pr} (h : IsJ w g b most L) (k : Fr w w') : IsJ w' g b most L :=
  h.mv (S := none0) (Mv.of_fr k) (fun h => h) (fun h => h)
/-- The map has turned. -/
theorem IsJ.turn {w w' : World} {g b : Nat} {most : Int} {L L' : List Pr} (h : IsJ w g b most L) (k : Mv (one1 b) w w') (hm : IsM w' b L') : IsJ w' g b most L' :=
  ⟨h.1, k.blk h.2.1 h.1, hm⟩

/-! ### the sort, on a slice of the call's own -/
theorem holds_of_own {w : World} {base g n c : Nat} {e : TypeId} {ss : List Int} (hb : Own w base e 1 (some ⟨g, 0, none⟩) n c (ss.map (Value.int .u64))) : Holds (Value.int .u64) w g 0 ss.toArray := by
  obtain ⟨hl, h⟩ := hb
  rcases h with ⟨h, _⟩ | ⟨g', cap, cur, h, _, hh, _, _, _, ht⟩
  · cases h
  injection h with h1 h2 h3
  injection h1 with h1; injection h1 with h1
  subst h1
  intro j hj
  have hj' : j < ss.length := by simpa using hj
  refine ⟨?_, by simp [World.frozen?, hh]⟩
  have h1 : (cur.toList.take (n * 1))[j]? = (ss.map (Value.int .u64))[j]? := by rw [ht]
  rw [List.getElem?_take_of_lt (by rw [← hl]; simpa using hj')] at h1
  simp only [World.cell?, hh, Nat.zero_add]
  simp only [Option.isSome_none, Bool.false_eq_true, if_false]
  rw [← Array.getElem?_toList, h1]
  simp [hj']
theorem mv_sorted {w : World} {g n : Nat} {os : Array Obj} (d : Array Int) : w.grownBy (grow (putRow (Value.int .u64) (Sort.ahead w n) g 0 d) os) (some g) := by
  refine ⟨rfl, rfl, rfl, by simp, fun k hk hne => ?_⟩
  rw [heap_grow_old _ _ (by simpa using hk)]
  have : g ≠ k := fun e => hne (by rw [e])
  simp [putRow, mapBlock, Sort.ahead, Array.getElem?_modify, this]
theorem own_sorted {w : World} {base g n c m : Nat} {e : TypeId} {os : Array Obj} {ss ts : List Int} (hl : ts.length = ss.length) (hb : Own w base e 1 (some ⟨g, 0, none⟩) n c (ss.map (Value.int .u64))) :
    Own (grow (putRow (Value.int .u64) (Sort.ahead w m) g 0 ts.toArray) os) base e 1 (some ⟨g, 0, none⟩) n c (ts.map (Value.int .u64)) := by
  obtain ⟨hl', h⟩ := hb
  rcases h with ⟨h, _⟩ | ⟨g', cap, cur, h, hbase, hh, hn, hc, hcur, ht⟩
  · cases h
  injection h with h1 h2 h3
  injection h1 with h1; injection h1 with h1
  subst h1; subst h3
  simp at hl'
  have hg : g < w.heap.size := (Array.getElem?_eq_some_iff.1 hh).1
  refine ⟨by simp [hl, hl'], .inr ⟨g, c, putCells (Value.int .u64) 0 ts.toArray cur, rfl, hbase, ?_, hn, hc, by simp [putCells, hcur], ?_⟩⟩
  · rw [heap_grow_old _ _ (by simpa using hg)]
    simp [putRow, mapBlock, Sort.ahead, Array.getElem?_modify, hh, onCells]
  · apply List.ext_getElem?
    intro j
    by_cases hj : j < ts.length
    · rw [List.getElem?_take_of_lt (by omega), Array.getElem?_toList]
      simp [putCells, hj, show j < cur.size by omega]
    · rw [List.getElem?_take_eq_none (by omega), List.getElem?_eq_none (by simp; omega)]

/-- Sorting a permutation of rising numbers gives them. -/
theorem sort_rising {l ks : List Int} (hp : l.Perm ks) (hk : ks.Pairwise (· < ·)) : l.mergeSort (fun x y => decide (x ≤ y)) = ks := by
  have tr : ∀ a b c : Int, decide (a ≤ b) = true → decide (b ≤ c) = true → decide (a ≤ c) = true := fun a b c h1 h2 => by simp at *; omega
  have to : ∀ a b : Int, (decide (a ≤ b) || decide (b ≤ a)) = true := fun a b => by simp; omega
  refine List.Perm.eq_of_pairwise (le := fun a b => decide (a ≤ b) = true) (fun a b _ _ h1 h2 => ?_) (List.pairwise_mergeSort tr to l) (hk.imp fun {a b} h => by simp; omega) ((List.mergeSort_perm l _).trans hp)
  simp at h1 h2
  omega

/-! ### the keys met so far -/
def Coll (D0 : DataW Unit) (left : Lit → Bool) (ss : List Int) : Prop := ss.Nodup ∧ ∀ x, x ∈ ss ↔ (Maps.has D0 (.int .u64 x) = true ∧ left (.int .u64 x) = false)
theorem coll_start (D0 : DataW Unit) : Coll D0 (Maps.has D0) [] := ⟨List.nodup_nil, fun x => by cases Maps.has D0 (.int .u64 x) <;> simp⟩
theorem coll_step {D0 : DataW Unit} {left : Lit → Bool} {ss : List Int} (h : Coll D0 left ss) {x : Int} {y : DataW Unit} (hlk : left (.int .u64 x) = true) (hat : ∀ zd, D0.atKey (.int .u64 x) zd = y) :
    Coll D0 (fun z => left z && !z.sameKey (.int .u64 x)) (ss ++ [x]) := by
  have hhas : Maps.has D0 (.int .u64 x) = true := has_true_of_atKey hat
  have hnew : x ∉ ss := fun hx => by have := ((h.2 x).1 hx).2; rw [hlk] at this; cases this
  refine ⟨List.nodup_append.2 ⟨h.1, by simp, fun a ha b hb => by simp at hb; subst hb; exact fun e => hnew (e ▸ ha)⟩, fun y => ?_⟩
  by_cases hy : y = x
  · subst hy; simp [hhas, Lit.sameKey]
  · simp [h.2 y, hy, Lit.sameKey]
theorem coll_end {D0 : DataW Unit} {left : Lit → Bool} {ss : List Int} {L : List Pr} (h : Coll D0 left ss) (hl : ∀ kl, left kl = false) (hU : Up L) (h1 : ∀ x, Maps.has D0 (.int .u64 x) = true ↔ ∃ v, (x, v) ∈ L) : ss.Perm (L.map (·.1)) := by
  refine (List.perm_ext_iff_of_nodup h.1 ?_).2 fun x => ?_
  · exact List.pairwise_map.2 (hU.imp fun {p q} h => by omega)
  · rw [h.2 x, hl, h1]; simp
theorem up_keys {L : List Pr} (h : Up L) : (L.map (·.1)).Pairwise (· < ·) := List.pairwise_map.2 h

/-- make([]uint64, 0, m). -/
theorem run_mk0 {P : Program} (t e : TypeId) (z : Value) (bytes : Nat) (ht : P.underlying t = some (.slice e)) (hinfo : (P.info? e).map (fun i => (i.zero, i.size, i.bytes)) = some (some z, 1, bytes)) (hz : z.cells = #[z])
    (w : World) (i : Int) (m : Nat) (hi : i = m) (hb : bytes * m ≤ 281474976710656) (h63 : m ≤ 9223372036854775807) :
    (Instr.makeSlice t (.int .i64 0) (.int .i64 i)).run P w = .ok (.slice (some ⟨w.heap.size, 0, none⟩) 0 m) (w.alloc (.cells (arr (List.replicate m z)) e)) := by
  subst hi
  obtain ⟨i0, hi, hzz⟩ := Option.map_eq_some_iff.1 hinfo
  simp only [Prod.mk.injEq] at hzz
  obtain ⟨hz0, hz1, hz2⟩ := hzz
  have hb' : (i0.bytes : Int) * (m : Int) ≤ 281474976710656 := by
    rw [hz2, ← Int.natCast_mul]; omega
  have hr := run_make (P := P) w t e i0 z ht hi hz0 .i64 .i64 0 m (by omega) (by omega) hb' (by omega)
  simp only [Int.toNat_natCast, hz1, hz, Nat.mul_one] at hr
  rw [hr]
  congr 3
  have := toList_madeCells_one z m
  rw [arr, ← this]
theorem own_mk0 (w : World) (e : TypeId) (z : Value) (m : Nat) (hm : m ≤ 9223372036854775807) : Own (w.alloc (.cells (arr (List.replicate m z)) e)) w.heap.size e 1 (some ⟨w.heap.size, 0, none⟩) 0 m [] :=
  ⟨by simp, .inr ⟨w.heap.size, m, arr (List.replicate m z), rfl, Nat.le_refl _, heap_alloc_new w _, Nat.zero_le _, by simpa [maxLen] using hm, by simp [arr], by simp⟩⟩
theorem info_u64 : (Try.prog.info? 31).map (fun i => (i.zero, i.size, i.bytes)) = some (some (.int .u64 0), 1, 8) := by kernel_rfl
theorem u_one (l : List Int) : ∀ v ∈ l.map (Value.int .u64), v.oneCell' = true := by simp [Value.oneCell']

end Go.Proofs.Ytjannhphmemenaa
