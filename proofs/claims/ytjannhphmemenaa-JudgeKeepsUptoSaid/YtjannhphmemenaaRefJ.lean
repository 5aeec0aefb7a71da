/- The walks of the reference of layer 23: New, rank. -/
import Derived.Test.YtjannhphmemenaaJudS
namespace Go.Proofs.Ytjannhphmemenaa
set_option maxRecDepth 100000
open Go.RowKit Go.Inc Go.Jud Go.Maps Go.Sort

/-- Block g is the plain map of these pairs, that lie at A. -/
structure IsP (w : World) (g : Nat) (A : Option Addr) (c : Nat) (most : Int) (L : List Pr) : Prop where
  blk : w.heap[g]? = some (.cells #[.int .i64 most, .slice A L.length c] 58 (0, 0))
  own : Own w 0 55 2 A L.length c (L.flatMap pcells)
  up : Up L
  inU : InU L
  ne : ablk A ≠ some g
/-- The blocks of the plain map. -/
def pset (g : Nat) (A : Option Addr) : Nat → Prop := fun k => k = g ∨ ablk A = some k
section
variable {w w' : World} {g c : Nat} {A : Option Addr} {most : Int} {L : List Pr}
theorem IsP.c0 (h : IsP w g A c most L) : w.cell? ⟨g, 0, none⟩ = some (.int .i64 most) := blk_cell h.blk 0
theorem IsP.c1 (h : IsP w g A c most L) : w.cell? ⟨g, 1, none⟩ = some (.slice A L.length c) := blk_cell h.blk 1
theorem IsP.f1 (h : IsP w g A c most L) : w.frozen? ⟨g, 1, none⟩ = false := blk_frozen h.blk 1
theorem IsP.lt (h : IsP w g A c most L) : g < w.heap.size := (Array.getElem?_eq_some_iff.1 h.blk).1
theorem IsP.ltA (h : IsP w g A c most L) (k : Nat) (hk : ablk A = some k) : k < w.heap.size := (h.own.lt k hk).2
theorem IsP.mv {S : Nat → Prop} (h : IsP w g A c most L) (k : Mv S w w') (hg : ¬ S g) (hA : ∀ i, ablk A = some i → ¬ S i) : IsP w' g A c most L :=
  ⟨k.blk h.blk hg, h.own.mv k hA, h.up, h.inU, h.ne⟩
theorem IsP.fr (h : IsP w g A c most L) (k : Fr w w') : IsP w' g A c most L := h.mv (S := none0) (Mv.of_fr k) (fun h => h) (fun _ _ h => h)
theorem IsP.cap (h : IsP w g A c most L) : L.length ≤ c := by
  rcases h.own.2 with ⟨h1, h2⟩ | ⟨_, _, _, h1, _, _, h2, _⟩
  · omega
  · injection h1 with _ _ h1; omega
theorem IsP.cells (h : IsP w g A c most L) (hne : 0 < L.length) : ∃ gA, A = some ⟨gA, 0, none⟩ ∧ ∀ t, t < L.length → w.cell? ⟨gA, t * 2, none⟩ = some (.int .u64 (L.getD t (0, 0)).1) ∧ w.cell? ⟨gA, t * 2 + 1, none⟩ = some (.int .u64 (L.getD t (0, 0)).2) := by
  obtain ⟨b, off, rfl, hc⟩ := pairs_cells h.own.rd hne
  rcases h.own.2 with ⟨h1, _⟩ | ⟨gA, _, _, h1, _⟩
  · cases h1
  · injection h1 with h1
    injection h1 with h1
    injection h1 with h1 h2
    subst h2
    exact ⟨b, rfl, fun t ht => by simpa using hc t ht⟩
end

theorem pnew_no (most : Int) (w : World) (hr : -9223372036854775808 ≤ most ∧ most ≤ 9223372036854775807) (h : most < 1 ∨ 4294967296 < most) :
    Calls Try.prog 12 #[.int .i64 most] w fun e w' => e = .returned (.tuple #[.pointer none, .int .i64 1]) ∧ w' = w := by
  rcases h with h | h
  · go_enter Try.func12, Try.ntmps12
    go_wp2
    go_ret2
    exact ⟨rfl, rfl⟩
  · have h1 : decide (most < 1) = false := decide_eq_false (by omega)
    go_enter Try.func12, Try.ntmps12
    go_wp2
    go_ret2
    exact ⟨rfl, rfl⟩
theorem pnew_yes (most : Int) (w : World) (h : 1 ≤ most) (h2 : most ≤ 4294967296) :
    Calls Try.prog 12 #[.int .i64 most] w fun e w' => ∃ g, e = .returned (.tuple #[.pointer (some ⟨g, 0, none⟩), .int .i64 0]) ∧ w.heap.size ≤ g ∧ IsP w' g none 0 most [] ∧ Fr w w' := by
  have h3 : decide (most < 1) = false := decide_eq_false (by omega)
  have h4 : decide (most > 4294967296) = false := decide_eq_false (by omega)
  go_enter Try.func12, Try.ntmps12
  go_wp2
  go_ret2
  exact ⟨w.heap.size, rfl, Nat.le_refl _, ⟨heap_alloc_new _ _, Own.nil _ _ _ _, List.Pairwise.nil, fun _ h => by simp at h, by simp [ablk]⟩, (Fr.refl w).alloc _⟩

set_option maxHeartbeats 1000000 in
theorem prank_calls (g c : Nat) (A : Option Addr) (most : Int) (L : List Pr) (k : Int) (w : World) (hP : IsP w g A c most L) (hL : L.length ≤ 1099511627776) :
    Calls Try.prog 22 #[.pointer (some ⟨g, 0, none⟩), .int .u64 k] w fun e w' => e = .returned (.int .i64 (rk L k : Nat)) ∧ w' = w := by
  have c1 := hP.c1
  have hrl := rk_le L k
  rcases Nat.eq_zero_or_pos L.length with h0 | h0
  · have hr0 : Hid (rk L k = 0) := by show _ = _; omega
    rw [h0] at c1
    clear hP hrl
    go_enter Try.func22, Try.ntmps22
    go_wp2
    go_loopw [5] (fun i wr => i = .int .i64 0 ∧ wr = w) (fun _ _ => 0)
    case atStart => exact ⟨rfl, rfl⟩
    case round =>
      obtain ⟨rfl, rfl⟩ := hrel
      go_wp2
      go_ret
      exact ⟨by rw [hr0.out]; rfl, rfl⟩
  · obtain ⟨gA, rfl, hc⟩ := hP.cells h0
    obtain ⟨G, hG⟩ : ∃ G : Nat → Int, ∀ t, G t = (L.getD t (0, 0)).1 := ⟨_, fun _ => rfl⟩
    have hcw : ∀ t, t < L.length → w.cell? ⟨gA, t * 2, none⟩ = some (.int .u64 (G t)) := fun t ht => by rw [hG]; exact (hc t ht).1
    have HG := Lib.hid hG
    have HUp := Lib.hid hP.up
    clear hc hG hP
    go_enter Try.func22, Try.ntmps22
    go_wp2
    go_loopw [5] (fun vi wr => ∃ i : Nat, vi = .int .i64 i ∧ i ≤ rk L k ∧ wr = w) (fun vi _ => L.length - (intOf vi).toNat)
    case atStart => exact ⟨0, rfl, by omega, rfl⟩
    case round =>
      obtain ⟨i, rfl, hi, rfl⟩ := hrel
      by_cases hlt : i < rk L k
      · have hci := hcw i (by omega)
        have hiz : decide ((i : Int) < (L.length : Int)) = true := decide_eq_true (by omega)
        have hiz2 : (i : Int) < (L.length : Int) := by omega
        have hgk : decide (G i < k) = true := decide_eq_true (by
          rw [HG.out]
          exact rk_below L k i _ hlt (by simp [show i < L.length by omega]))
        go_wp2
        exact ⟨⟨i + 1, by simp, by omega, trivial⟩, by simp [intOf]; omega⟩
      · have hri : Hid (rk L k = i) := by show _ = _; omega
        by_cases hil : i < L.length
        · have hci := hcw i (by omega)
          have hiz : decide ((i : Int) < (L.length : Int)) = true := decide_eq_true (by omega)
          have hiz2 : (i : Int) < (L.length : Int) := by omega
          have hgk : decide (G i < k) = false := decide_eq_false (by
            rw [HG.out]
            have := rk_at L k (L.getD i (0, 0)) (by rw [hri.out]; simp [hil])
            omega)
          go_wp2
          go_ret
          exact ⟨by rw [hri.out]; rfl, rfl⟩
        · have hiz : decide ((i : Int) < (L.length : Int)) = false := decide_eq_false (by omega)
          go_wp2
          go_ret
          exact ⟨by rw [hri.out]; rfl, rfl⟩

theorem own_set {w : World} {base gA : Nat} {e : TypeId} {size n c : Nat} {xs : List Value} (h : Own w base e size (some ⟨gA, 0, none⟩) n c xs) (j : Nat) (v : Value) : Own (w.setCell ⟨gA, j, none⟩ v) base e size (some ⟨gA, 0, none⟩) n c (xs.set j v) := by
  obtain ⟨h1, h2⟩ := h
  refine ⟨by simpa using h1, ?_⟩
  rcases h2 with ⟨h2, _⟩ | ⟨g, cap, cur, r1, r2, r3, r4, r5, r6, r7⟩
  · cases h2
  · injection r1 with q1 q2 q3
    injection q1 with q1
    injection q1 with q1
    subst q1; subst q3
    refine .inr ⟨gA, c, cur.setIfInBounds j v, rfl, r2, blk_set r3 j v, r4, r5, by simpa using r6, ?_⟩
    rw [← r7, Array.toList_setIfInBounds, List.take_set]
theorem flat_set (k v v0 : Int) : ∀ (L : List Pr) (r : Nat), L[r]? = some (k, v0) → (L.flatMap pcells).set (r * 2 + 1) (.int .u64 v) = (L.set r (k, v)).flatMap pcells
  | [], _, h => by simp at h
  | x :: l, 0, h => by simp at h; subst h; rfl
  | x :: l, r + 1, h => by
    have ih := flat_set k v v0 l r (by simpa using h)
    rw [List.flatMap_cons, List.set_cons_succ, List.flatMap_cons, ← ih, List.set_append_right _ _ (by rw [pcells_len]; omega), pcells_len]
    congr 2; omega
theorem info_sz_pair : (Try.prog.info? 55).map (·.size) = some 2 := by kernel_rfl

/-- What the map's change leaves. -/
def PPost (g : Nat) (A : Option Addr) (most : Int) (L' : List Pr) (w w' : World) : Prop :=
  ∃ A' c', IsP w' g A' c' most L' ∧ (ablk A' = ablk A ∨ ∀ k, ablk A' = some k → w.heap.size ≤ k) ∧ Mv (pset g A) w w'
theorem PPost.same {g c : Nat} {A : Option Addr} {most : Int} {L : List Pr} {w w' : World} (hP : IsP w g A c most L) (hf : Fr w w') : PPost g A most L w w' := ⟨A, c, hP.fr hf, .inl rfl, Mv.of_fr hf⟩

set_option maxHeartbeats 2000000 in
theorem pput_is (g c : Nat) (A : Option Addr) (most : Int) (L : List Pr) (k v : Int) (w : World) (hP : IsP w g A c most L) (hL : L.length ≤ 1073741824) (hk : U k) (hv : U v) (hi : isAt L k = true) :
    Calls Try.prog 23 #[.pointer (some ⟨g, 0, none⟩), .int .u64 k, .int .u64 v] w fun e w' => e = .returned (.int .i64 0) ∧ PPost g A most (setL L k v) w w' := by
  have hlt := isAt_lt hi
  obtain ⟨gA, rfl, hc⟩ := hP.cells (by omega)
  obtain ⟨v0, hv0, -⟩ := isAt_get hi
  have hck : w.cell? ⟨gA, rk L k * 2, none⟩ = some (.int .u64 k) := by have := (hc _ hlt).1; rw [List.getD_eq_getElem?_getD, hv0] at this; exact this
  have hcv : w.cell? ⟨gA, rk L k * 2 + 1, none⟩ = some (.int .u64 v0) := by have := (hc _ hlt).2; rw [List.getD_eq_getElem?_getD, hv0] at this; exact this
  have hfv : w.frozen? ⟨gA, rk L k * 2 + 1, none⟩ = false := by
    rcases hP.own.2 with ⟨h, _⟩ | ⟨_, _, _, h, _, hh, _⟩
    · cases h
    · injection h with h; injection h with h; injection h with h; subst h; exact blk_frozen hh _
  have c1 := hP.c1
  have hz : (rk L k : Int) < (L.length : Int) := by omega
  have HP := Lib.hid hP
  have HI := Lib.hid hi
  have HV := Lib.hid hv0
  clear hP hc hi hv0
  go_enter Try.func23, Try.ntmps23
  go_wp2_with fail
  refine (prank_calls g c _ most L k w HP.out (by omega)).mono ?_
  rintro e w2 ⟨rfl, rfl⟩
  go_wp2_with fail
  go_ret
  refine ⟨rfl, some ⟨gA, 0, none⟩, c, ⟨?_, ?_, up_set HP.out.up HI.out, fun p hp => ?_, HP.out.ne⟩, .inl rfl, ?_⟩
  · rw [len_set]
    exact blk_set_ne HP.out.blk (fun e => HP.out.ne (by simp [ablk]; exact e)) _
  · rw [len_set]
    have := own_set HP.out.own (rk L k * 2 + 1) (.int .u64 v)
    rwa [flat_set k v v0 L _ HV.out] at this
  · rcases (mem_set HP.out.up HI.out p).1 hp with rfl | ⟨_, hp⟩
    · exact ⟨hk, hv⟩
    · exact HP.out.inU p hp
  · exact (Mv.refl _ _).set (.inl (.inr rfl)) _

theorem pput_full (g c : Nat) (A : Option Addr) (most : Int) (L : List Pr) (k v : Int) (w : World) (hP : IsP w g A c most L) (hL : L.length ≤ 1073741824) (hi : isAt L k = false) (hm : (L.length : Int) ≥ most) :
    Calls Try.prog 23 #[.pointer (some ⟨g, 0, none⟩), .int .u64 k, .int .u64 v] w fun e w' => e = .returned (.int .i64 161) ∧ PPost g A most L w w' := by
  have c0 := hP.c0
  have c1 := hP.c1
  have hrl := rk_le L k
  have HP := Lib.hid hP
  have HI := Lib.hid hi
  have hmz : decide (most ≤ (L.length : Int)) = true := decide_eq_true (by omega)
  have hmz2 : decide ((L.length : Int) ≥ most) = true := decide_eq_true (by omega)
  rcases Nat.lt_or_ge (rk L k) L.length with h1 | h1
  · obtain ⟨gA, rfl, hc⟩ := hP.cells (by omega)
    have hck := (hc _ h1).1
    have hz : (rk L k : Int) < (L.length : Int) := by omega
    obtain ⟨G, hG⟩ : ∃ G : Int, G = (L.getD (rk L k) (0, 0)).1 := ⟨_, rfl⟩
    rw [← hG] at hck
    have hne : (G == k) = false := by
      have h2 := HI.out
      unfold isAt at h2
      have e : L[rk L k]? = some (L.getD (rk L k) (0, 0)) := by simp [h1]
      rw [e] at h2
      rw [hG]; exact h2
    clear hc hG
    clear hP hi
    go_enter Try.func23, Try.ntmps23
    go_wp2_with fail
    refine (prank_calls g c _ most L k w HP.out (by omega)).mono ?_
    rintro e w2 ⟨rfl, rfl⟩
    go_wp2_with fail
    go_quiet (fail)
    go_wp2_with fail
    go_ret
    exact ⟨rfl, PPost.same HP.out (fr_drewN _ _)⟩
  · have hz : decide (rk L k < L.length) = false := decide_eq_false (by omega)
    clear hP hi h1
    go_enter Try.func23, Try.ntmps23
    go_wp2_with fail
    refine (prank_calls g c _ most L k w HP.out (by omega)).mono ?_
    rintro e w2 ⟨rfl, rfl⟩
    go_wp2_with fail
    go_quiet (fail)
    go_wp2_with fail
    go_ret
    exact ⟨rfl, PPost.same HP.out (fr_drewN _ _)⟩

set_option maxHeartbeats 2000000 in
theorem pput_new (g c : Nat) (A : Option Addr) (most : Int) (L : List Pr) (k v : Int) (w : World) (hP : IsP w g A c most L) (hL : L.length ≤ 1073741824) (hk : U k) (hv : U v) (hi : isAt L k = false) (hm : (L.length : Int) < most) :
    Calls Try.prog 23 #[.pointer (some ⟨g, 0, none⟩), .int .u64 k, .int .u64 v] w fun e w' => e = .returned (.int .i64 0) ∧ PPost g A most (insL L k v) w w' := by
  have c0 := hP.c0
  have c1 := hP.c1
  have hrl := rk_le L k
  have HP := Lib.hid hP
  have HI := Lib.hid hi
  have hmz : decide (most ≤ (L.length : Int)) = false := decide_eq_false (by omega)
  have hmz2 : decide ((L.length : Int) ≥ most) = false := decide_eq_false (by omega)
  rcases Nat.lt_or_ge (rk L k) L.length with h1 | h1
  · obtain ⟨gA, rfl, hc⟩ := hP.cells (by omega)
    have hck := (hc _ h1).1
    have hz : (rk L k : Int) < (L.length : Int) := by omega
    obtain ⟨G, hG⟩ : ∃ G : Int, G = (L.getD (rk L k) (0, 0)).1 := ⟨_, rfl⟩
    rw [← hG] at hck
    have hne : (G == k) = false := by
      have h2 := HI.out
      unfold isAt at h2
      have e : L[rk L k]? = some (L.getD (rk L k) (0, 0)) := by simp [h1]
      rw [e] at h2
      rw [hG]; exact h2
    clear hc hG
    clear hP hi
    go_enter Try.func23, Try.ntmps23
    go_wp2_with fail
    refine (prank_calls g c _ most L k w HP.out (by omega)).mono ?_
    rintro e w2 ⟨rfl, rfl⟩
    go_wp2_with fail
    go_quiet (fail)
    obtain ⟨w3, hw3⟩ : ∃ w3, w3 = w2.drewN nq := ⟨_, rfl⟩
    rw [← hw3]
    have hf3 : Hid (Fr w2 w3) := by rw [hw3]; exact fr_drewN _ _
    clear hw3
    have d1 := (HP.out.fr hf3.out).c1
    have d1a := ((Fr.refl w3).alloc (.cells #[] 55)).cell d1
    have hcap := HP.out.cap
    have HR3 : Hid (RdC w3 _ (L.flatMap pcells)) := (HP.out.fr hf3.out).own.rd
    obtain ⟨A2, hcut, -, hrd2⟩ := run_cut_h (P := Try.prog) 42 55 2 Try.underlying42 info_sz_pair _ L.length c (rk L k) (rk L k : Int) rfl (by omega) .i64
    obtain ⟨A3, hcut3, -, hrd3⟩ := run_cut_l (P := Try.prog) 42 55 2 Try.underlying42 info_sz_pair _ L.length c (rk L k) (rk L k : Int) rfl hrl hcap .i64
    have hle : ((L.take (rk L k)).flatMap pcells).length = rk L k * 2 := by rw [flat_len pcells 2 pcells_len, List.length_take]; omega
    have hle3 : ((L.drop (rk L k)).flatMap pcells).length = (L.length - rk L k) * 2 := by rw [flat_len pcells 2 pcells_len, List.length_drop]
    have HT : Hid ((L.flatMap pcells).take (rk L k * 2) = (L.take (rk L k)).flatMap pcells) := by
      have e : L.flatMap pcells = (L.take (rk L k)).flatMap pcells ++ (L.drop (rk L k)).flatMap pcells := by rw [← List.flatMap_append, List.take_append_drop]
      show _ = _
      rw [e]
      rw [List.take_append_of_le_length (by omega), List.take_of_length_le (by omega)]
    have HD : Hid ((L.flatMap pcells).drop (rk L k * 2) = (L.drop (rk L k)).flatMap pcells) := by
      have e : L.flatMap pcells = (L.take (rk L k)).flatMap pcells ++ (L.drop (rk L k)).flatMap pcells := by rw [← List.flatMap_append, List.take_append_drop]
      show _ = _
      rw [e]
      rw [List.drop_append_of_le_length (by omega), List.drop_of_length_le (by omega), List.nil_append]
    have R2 : Hid (RdC w3 A2 ((L.take (rk L k)).flatMap pcells)) := by
      have := hrd2 w3 _ (HR3.out.take (rk L k * 2))
      rwa [HT.out] at this
    have R3 : Hid (RdC w3 A3 ((L.drop (rk L k)).flatMap pcells)) := by
      have := hrd3 w3 _ (by rw [flat_len pcells 2 pcells_len]) HR3.out
      rwa [HD.out] at this
    have HLE := Lib.hid hle
    have HLE3 := Lib.hid hle3
    clear hrd2 hrd3 hle hle3
    go_wp2_with (at_builtin; refine gate ?_)
    refine gate_app rfl _ _ 42 rfl 55 (.agg #[.int .u64 0, .int .u64 0]) 2 16 Try.underlying42 info_pair rfl (by omega) (by omega) w3.heap.size (some ⟨w3.heap.size, 0, none⟩) 0 0 [] A2 (rk L k) c ((L.take (rk L k)).flatMap pcells) (by rfl) (by rfl)
      (Own.of_blk (Blk.new w3 [] _) (Nat.le_refl _) rfl (by omega)) HLE.out (R2.out.fr ((Fr.refl w3).alloc _)) (pcells_one _) (by omega) (by simp) ?_
    intro A4 c4 w4 hown4 hgr4 hat4
    have hf4 : Hid (Fr w3 w4) := ((Fr.refl w3).alloc _).grown hgr4.out (fun k hk => by simp [ablk] at hk; omega)
    have ho4 : Hid (Own w4 w3.heap.size 55 2 A4 (rk L k) c4 ((L.take (rk L k)).flatMap pcells)) := by simpa [Hid] using hown4.out
    clear hown4 hgr4 hat4
    rw [Nat.zero_add]
    go_wp2_with (at_builtin; refine gate ?_)
    refine gate_app rfl _ _ 42 rfl 55 (.agg #[.int .u64 0, .int .u64 0]) 2 16 Try.underlying42 info_pair rfl (by omega) (by omega) w3.heap.size A4 (rk L k) c4 _ (some ⟨w4.heap.size, 0, none⟩) 1 1 (pcells (k, v)) (by rfl) (by rfl)
      (ho4.out.fr ((Fr.refl w4).alloc _)) rfl (RdC.blk (Blk.new w4 _ _)) (by simpa using pcells_one [(k, v)]) (by omega) (by have := hf4.out.size; simp; omega) ?_
    intro A5 c5 w5 hown5 hgr5 hat5
    have hf5 : Hid (Fr w3 w5) := (hf4.out.alloc _).grown hgr5.out (fun k hk => (ho4.out.lt k hk).1)
    have ho5 := hown5
    clear hown5 hgr5 hat5
    have d5 := hf5.out.cell d1
    go_wp2_with (at_builtin; refine gate ?_)
    refine gate_app rfl _ _ 42 rfl 55 (.agg #[.int .u64 0, .int .u64 0]) 2 16 Try.underlying42 info_pair rfl (by omega) (by omega) w3.heap.size A5 (rk L k + 1) c5 _ A3 (L.length - rk L k) (c - rk L k) ((L.drop (rk L k)).flatMap pcells) (by rfl) (by rfl)
      ho5.out HLE3.out (R3.out.fr hf5.out) (pcells_one _) (by omega) (by have := hf5.out.size; omega) ?_
    intro A6 c6 w6 hown6 hgr6 hat6
    have hf6 : Hid (Fr w3 w6) := hf5.out.grown hgr6.out (fun k hk => (ho5.out.lt k hk).1)
    have ho6 := hown6
    clear hown6 hgr6 hat6
    have d6 := hf6.out.cell d1
    have HP6 := Lib.hid (HP.out.fr (hf3.out.trans hf6.out))
    have g6 := HP6.out.f1
    have hlg := HP.out.lt
    have hl6 : rk L k + 1 + (L.length - rk L k) = (insL L k v).length := by rw [len_ins]; omega
    have HL6 := Lib.hid hl6
    clear hl6
    go_wp2_with fail
    go_ret
    have h3s := hf3.out.size
    have hne6 : ablk A6 ≠ some g := fun e => by have := (ho6.out.lt g e).1; omega
    have hown : Own w6 w3.heap.size 55 2 A6 (insL L k v).length c6 ((insL L k v).flatMap pcells) := by
      rw [← HL6.out]
      have e : (insL L k v).flatMap pcells = (L.take (rk L k)).flatMap pcells ++ pcells (k, v) ++ (L.drop (rk L k)).flatMap pcells := by
        unfold insL; simp
      rw [e]; exact ho6.out
    refine ⟨rfl, A6, c6, ⟨?_, ?_, up_ins HP.out.up HI.out, fun p hp => ?_, hne6⟩, .inr (fun k hk => by have := (ho6.out.lt k hk).1; omega), ?_⟩
    · rw [← HL6.out]
      have := blk_set HP6.out.blk 1 (.slice A6 (rk L k + 1 + (L.length - rk L k)) c6)
      simpa using this
    · exact (hown.mono (Nat.zero_le _)).mv (S := one1 g) ((Mv.refl _ _).set (p := ⟨g, 1, none⟩) (.inl (show one1 g g from rfl)) _) (fun i hi e => hne6 (by rw [hi]; rw [show i = g from e]))
    · rcases (mem_ins k v p).1 hp with rfl | hp
      · exact ⟨hk, hv⟩
      · exact HP.out.inU p hp
    · exact (Mv.of_fr (hf3.out.trans hf6.out)).set (p := ⟨g, 1, none⟩) (.inl (.inl rfl)) _
  · have hz : decide (rk L k < L.length) = false := decide_eq_false (by omega)
    clear hP hi h1
    go_enter Try.func23, Try.ntmps23
    go_wp2_with fail
    refine (prank_calls g c _ most L k w HP.out (by omega)).mono ?_
    rintro e w2 ⟨rfl, rfl⟩
    go_wp2_with fail
    go_quiet (fail)
    obtain ⟨w3, hw3⟩ : ∃ w3, w3 = w2.drewN nq := ⟨_, rfl⟩
    rw [← hw3]
    have hf3 : Hid (Fr w2 w3) := by rw [hw3]; exact fr_drewN _ _
    clear hw3
    have d1 := (HP.out.fr hf3.out).c1
    have d1a := ((Fr.refl w3).alloc (.cells #[] 55)).cell d1
    have hcap := HP.out.cap
    have HR3 : Hid (RdC w3 _ (L.flatMap pcells)) := (HP.out.fr hf3.out).own.rd
    obtain ⟨A2, hcut, -, hrd2⟩ := run_cut_h (P := Try.prog) 42 55 2 Try.underlying42 info_sz_pair _ L.length c (rk L k) (rk L k : Int) rfl (by omega) .i64
    obtain ⟨A3, hcut3, -, hrd3⟩ := run_cut_l (P := Try.prog) 42 55 2 Try.underlying42 info_sz_pair _ L.length c (rk L k) (rk L k : Int) rfl hrl hcap .i64
    have hle : ((L.take (rk L k)).flatMap pcells).length = rk L k * 2 := by rw [flat_len pcells 2 pcells_len, List.length_take]; omega
    have hle3 : ((L.drop (rk L k)).flatMap pcells).length = (L.length - rk L k) * 2 := by rw [flat_len pcells 2 pcells_len, List.length_drop]
    have HT : Hid ((L.flatMap pcells).take (rk L k * 2) = (L.take (rk L k)).flatMap pcells) := by
      have e : L.flatMap pcells = (L.take (rk L k)).flatMap pcells ++ (L.drop (rk L k)).flatMap pcells := by rw [← List.flatMap_append, List.take_append_drop]
      show _ = _
      rw [e]
      rw [List.take_append_of_le_length (by omega), List.take_of_length_le (by omega)]
    have HD : Hid ((L.flatMap pcells).drop (rk L k * 2) = (L.drop (rk L k)).flatMap pcells) := by
      have e : L.flatMap pcells = (L.take (rk L k)).flatMap pcells ++ (L.drop (rk L k)).flatMap pcells := by rw [← List.flatMap_append, List.take_append_drop]
      show _ = _
      rw [e]
      rw [List.drop_append_of_le_length (by omega), List.drop_of_length_le (by omega), List.nil_append]
    have R2 : Hid (RdC w3 A2 ((L.take (rk L k)).flatMap pcells)) := by
      have := hrd2 w3 _ (HR3.out.take (rk L k * 2))
      rwa [HT.out] at this
    have R3 : Hid (RdC w3 A3 ((L.drop (rk L k)).flatMap pcells)) := by
      have := hrd3 w3 _ (by rw [flat_len pcells 2 pcells_len]) HR3.out
      rwa [HD.out] at this
    have HLE := Lib.hid hle
    have HLE3 := Lib.hid hle3
    clear hrd2 hrd3 hle hle3
    go_wp2_with (at_builtin; refine gate ?_)
    refine gate_app rfl _ _ 42 rfl 55 (.agg #[.int .u64 0, .int .u64 0]) 2 16 Try.underlying42 info_pair rfl (by omega) (by omega) w3.heap.size (some ⟨w3.heap.size, 0, none⟩) 0 0 [] A2 (rk L k) c ((L.take (rk L k)).flatMap pcells) (by rfl) (by rfl)
      (Own.of_blk (Blk.new w3 [] _) (Nat.le_refl _) rfl (by omega)) HLE.out (R2.out.fr ((Fr.refl w3).alloc _)) (pcells_one _) (by omega) (by simp) ?_
    intro A4 c4 w4 hown4 hgr4 hat4
    have hf4 : Hid (Fr w3 w4) := ((Fr.refl w3).alloc _).grown hgr4.out (fun k hk => by simp [ablk] at hk; omega)
    have ho4 : Hid (Own w4 w3.heap.size 55 2 A4 (rk L k) c4 ((L.take (rk L k)).flatMap pcells)) := by simpa [Hid] using hown4.out
    clear hown4 hgr4 hat4
    rw [Nat.zero_add]
    go_wp2_with (at_builtin; refine gate ?_)
    refine gate_app rfl _ _ 42 rfl 55 (.agg #[.int .u64 0, .int .u64 0]) 2 16 Try.underlying42 info_pair rfl (by omega) (by omega) w3.heap.size A4 (rk L k) c4 _ (some ⟨w4.heap.size, 0, none⟩) 1 1 (pcells (k, v)) (by rfl) (by rfl)
      (ho4.out.fr ((Fr.refl w4).alloc _)) rfl (RdC.blk (Blk.new w4 _ _)) (by simpa using pcells_one [(k, v)]) (by omega) (by have := hf4.out.size; simp; omega) ?_
    intro A5 c5 w5 hown5 hgr5 hat5
    have hf5 : Hid (Fr w3 w5) := (hf4.out.alloc _).grown hgr5.out (fun k hk => (ho4.out.lt k hk).1)
    have ho5 := hown5
    clear hown5 hgr5 hat5
    have d5 := hf5.out.cell d1
    go_wp2_with (at_builtin; refine gate ?_)
    refine gate_app rfl _ _ 42 rfl 55 (.agg #[.int .u64 0, .int .u64 0]) 2 16 Try.underlying42 info_pair rfl (by omega) (by omega) w3.heap.size A5 (rk L k + 1) c5 _ A3 (L.length - rk L k) (c - rk L k) ((L.drop (rk L k)).flatMap pcells) (by rfl) (by rfl)
      ho5.out HLE3.out (R3.out.fr hf5.out) (pcells_one _) (by omega) (by have := hf5.out.size; omega) ?_
    intro A6 c6 w6 hown6 hgr6 hat6
    have hf6 : Hid (Fr w3 w6) := hf5.out.grown hgr6.out (fun k hk => (ho5.out.lt k hk).1)
    have ho6 := hown6
    clear hown6 hgr6 hat6
    have d6 := hf6.out.cell d1
    have HP6 := Lib.hid (HP.out.fr (hf3.out.trans hf6.out))
    have g6 := HP6.out.f1
    have hlg := HP.out.lt
    have hl6 : rk L k + 1 + (L.length - rk L k) = (insL L k v).length := by rw [len_ins]; omega
    have HL6 := Lib.hid hl6
    clear hl6
    go_wp2_with fail
    go_ret
    have h3s := hf3.out.size
    have hne6 : ablk A6 ≠ some g := fun e => by have := (ho6.out.lt g e).1; omega
    have hown : Own w6 w3.heap.size 55 2 A6 (insL L k v).length c6 ((insL L k v).flatMap pcells) := by
      rw [← HL6.out]
      have e : (insL L k v).flatMap pcells = (L.take (rk L k)).flatMap pcells ++ pcells (k, v) ++ (L.drop (rk L k)).flatMap pcells := by
        unfold insL; simp
      rw [e]; exact ho6.out
    refine ⟨rfl, A6, c6, ⟨?_, ?_, up_ins HP.out.up HI.out, fun p hp => ?_, hne6⟩, .inr (fun k hk => by have := (ho6.out.lt k hk).1; omega), ?_⟩
    · rw [← HL6.out]
      have := blk_set HP6.out.blk 1 (.slice A6 (rk L k + 1 + (L.length - rk L k)) c6)
      simpa using this
    · exact (hown.mono (Nat.zero_le _)).mv (S := one1 g) ((Mv.refl _ _).set (p := ⟨g, 1, none⟩) (.inl (show one1 g g from rfl)) _) (fun i hi e => hne6 (by rw [hi]; rw [show i = g from e]))
    · rcases (mem_ins k v p).1 hp with rfl | hp
      · exact ⟨hk, hv⟩
      · exact HP.out.inU p hp
    · exact (Mv.of_fr (hf3.out.trans hf6.out)).set (p := ⟨g, 1, none⟩) (.inl (.inl rfl)) _

end Go.Proofs.Ytjannhphmemenaa
