/- The walks of the reference of layer 23: Do (printed by gendo.py). -/
import Derived.Test.YtjannhphmemenaaRefJ
namespace Go.Proofs.Ytjannhphmemenaa
set_option maxRecDepth 100000
open Go.RowKit Go.Inc Go.Jud Go.Maps Go.Sort

/-- What the plain map answers, and what it is then. -/
def PDoPost (most : Int) (L : List Pr) (o : OpV) (g : Nat) (A : Option Addr) (w : World) (e : Ending) (w' : World) : Prop :=
  (∃ B cb, e = .returned (ansVal (does most L o).1 B cb) ∧ Own w' w.heap.size 55 2 B (does most L o).1.list.length cb ((does most L o).1.list.flatMap pcells)) ∧ PPost g A most (does most L o).2 w w'
theorem pdo_nil {most : Int} {L : List Pr} {o : OpV} {g : Nat} {A : Option Addr} {w w' : World} {a : AnsV} {L' : List Pr} (he : does most L o = (a, L')) (ha : a.list = []) (hp : PPost g A most L' w w') : PDoPost most L o g A w (.returned (ansVal a none 0)) w' :=
  ⟨⟨none, 0, by rw [he], by rw [he, ha]; exact Own.nil _ _ _ _⟩, by rw [he]; exact hp⟩
theorem ppost_same6 {g c gA : Nat} {A : Option Addr} {most : Int} {L : List Pr} {w w' : World} (hP : IsP w g A c most L) (hf : Fr w w') (hg : w.heap.size ≤ gA) (y0 y1 y2 y3 y4 y5 : Value) : PPost g A most L w (set6 w' gA y0 y1 y2 y3 y4 y5) :=
  ⟨A, c, (hP.fr hf).mv (set6_mv1 w' gA y0 y1 y2 y3 y4 y5) (fun e => by have h1 : g = gA := e; have := hP.lt; omega) (fun i hi e => by have h1 : i = gA := e; have := hP.ltA i hi; omega), .inl rfl, set6_mv (Mv.of_fr hf) hg _ _ _ _ _ _⟩
theorem ppost_set6 {g gA : Nat} {A : Option Addr} {most : Int} {L' : List Pr} {w w' : World} (h : PPost g A most L' w w') (hg : w.heap.size ≤ gA) (hlt : g < w.heap.size) (hfar : ∀ A' c', IsP w' g A' c' most L' → (ablk A' = ablk A ∨ ∀ k, ablk A' = some k → w.heap.size ≤ k) → ablk A' ≠ some gA) (y0 y1 y2 y3 y4 y5 : Value) : PPost g A most L' w (set6 w' gA y0 y1 y2 y3 y4 y5) := by
  obtain ⟨A', c', h1, h2, h3⟩ := h
  exact ⟨A', c', h1.mv (set6_mv1 _ _ _ _ _ _ _ _) (fun e => by have : g = gA := e; omega) (fun i hi e => hfar A' c' h1 h2 (by rw [hi]; rw [show i = gA from e])), h2, set6_mv h3 hg _ _ _ _ _ _⟩

theorem pairAt_in {L : List Pr} {n : Nat} {N : Int} {p : Pr} (hN : N = n) (h : L[n]? = some p) : pairAt L N = ⟨0, true, p.1, p.2, 0, []⟩ := by
  subst hN
  have := (List.getElem?_eq_some_iff.1 h).1
  unfold pairAt
  rw [if_pos (by omega), Int.toNat_natCast, h]
theorem pairAt_out {L : List Pr} {N : Int} (h : N < 0 ∨ (L.length : Int) ≤ N) : pairAt L N = ans0 := by
  unfold pairAt
  rw [if_neg (by omega)]
theorem does3 (most : Int) (L : List Pr) (k v : Int) : does most L ⟨3, k, v⟩ = (⟨0, isAt L k, 0, valAt L k, 0, []⟩, L) := rfl
theorem does4 (most : Int) (L : List Pr) (k v : Int) : does most L ⟨4, k, v⟩ = (pairAt L (if isAt L k then rk L k else (rk L k : Int) - 1), L) := rfl
theorem does5 (most : Int) (L : List Pr) (k v : Int) : does most L ⟨5, k, v⟩ = (pairAt L (rk L k), L) := rfl
theorem val_is {L : List Pr} {k : Int} (h : isAt L k = true) : valAt L k = (L.getD (rk L k) (0, 0)).2 := by
  obtain ⟨v0, e1, e2⟩ := isAt_get h
  rw [e2, List.getD_eq_getElem?_getD, e1]; rfl
theorem getD_some {L : List Pr} {n : Nat} (h : n < L.length) : L[n]? = some (L.getD n (0, 0)) := by simp [h]

set_option maxHeartbeats 2000000 in
theorem pdo_rank_out (g c : Nat) (A : Option Addr) (most : Int) (L : List Pr) (k v : Int) (w : World) (hP : IsP w g A c most L) (hL : L.length ≤ 1073741824) (h1 : L.length ≤ rk L k) :
    Calls Try.prog 14 #[.pointer (some ⟨g, 0, none⟩), .agg #[.int .i64 6, .int .u64 k, .int .u64 v]] w (PDoPost most L ⟨6, k, v⟩ g A w) := by
  have hrl := rk_le L k
  have hltg := hP.lt
  have hltA := Lib.hid hP.ltA
  have HP := Lib.hid hP
  go_enter Try.func14, Try.ntmps14
  go_wp2_with fail
  refine (prank_calls g c _ most L k _ (HP.out.fr (fr2 w _ _)) (by omega)).mono ?_
  rintro e w2 ⟨rfl, hw2⟩
  have ha := alloc2_snd w (.cells #[.int .i64 6, .int .u64 k, .int .u64 v] 33) (.cells #[.int .i64 0, .bool false, .int .u64 0, .int .u64 0, .int .i64 0, .slice none 0 0] 44)
  have ho := alloc2_fst w (.cells #[.int .i64 6, .int .u64 k, .int .u64 v] 33) (.cells #[.int .i64 0, .bool false, .int .u64 0, .int .u64 0, .int .i64 0, .slice none 0 0] 44)
  have hff := Lib.hid (fr2 w (.cells #[.int .i64 6, .int .u64 k, .int .u64 v] 33) (.cells #[.int .i64 0, .bool false, .int .u64 0, .int .u64 0, .int .i64 0, .slice none 0 0] 44))
  rw [← hw2] at ha ho hff
  clear hw2
  obtain ⟨o0, o1, o2⟩ := op_cells ho
  have HA := Lib.hid ha
  have HO := Lib.hid ho
  have hs2 : Hid (w.heap.size + 2 ≤ w2.heap.size) := (Array.getElem?_eq_some_iff.1 ha).1
  clear ha ho
  have HP2 := Lib.hid (HP.out.fr hff.out)
  have c1 := HP2.out.c1
  have hz : decide (rk L k < L.length) = false := decide_eq_false (by omega)
  have hi : isAt L k = false := by
    unfold isAt
    rw [List.getElem?_eq_none h1]
  have HI := Lib.hid hi
  clear h1 hi hP
  go_wp2_with fail
  go_quiet (fail)
  obtain ⟨w3, hw3⟩ : ∃ w3, w3 = w2.drewN nq := ⟨_, rfl⟩
  rw [← hw3]
  have hf3 : Hid (Fr w2 w3) := by rw [hw3]; exact fr_drewN _ _
  clear hw3
  have HA3 := Lib.hid (hf3.out.blk HA.out)
  obtain ⟨q0, q1, q2⟩ := op_cells (hf3.out.blk HO.out)
  have HP3 := Lib.hid (HP2.out.fr hf3.out)
  have d1 := HP3.out.c1
  have hs3 : Hid (w.heap.size + 2 ≤ w3.heap.size) := Nat.le_trans hs2.out hf3.out.size
  have hf4 : ∀ o, Fr w3 (w3.alloc o) := fun o => (Fr.refl w3).alloc o
  have q0a := fun o => (hf4 o).cell q0
  have q1a := fun o => (hf4 o).cell q1
  have q2a := fun o => (hf4 o).cell q2
  have d1a := fun o => (hf4 o).cell d1
  have HA4 : Hid (∀ o, (w3.alloc o).heap[w.heap.size + 1]? = _) := fun o => (hf4 o).blk HA3.out
  have z0 := fun o => (ans_cells (HA4.out o)).1
  have z1 := fun o => (ans_cells (HA4.out o)).2.1
  have z2 := fun o => (ans_cells (HA4.out o)).2.2.1
  have z3 := fun o => (ans_cells (HA4.out o)).2.2.2.1
  have z4 := fun o => (ans_cells (HA4.out o)).2.2.2.2.1
  have z5 := fun o => (ans_cells (HA4.out o)).2.2.2.2.2.1
  have y0 := fun o => (ans_cells (HA4.out o)).2.2.2.2.2.2.1
  have y1 := fun o => (ans_cells (HA4.out o)).2.2.2.2.2.2.2.1
  have y2 := fun o => (ans_cells (HA4.out o)).2.2.2.2.2.2.2.2.1
  have y3 := fun o => (ans_cells (HA4.out o)).2.2.2.2.2.2.2.2.2.1
  have y4 := fun o => (ans_cells (HA4.out o)).2.2.2.2.2.2.2.2.2.2.1
  have y5 := fun o => (ans_cells (HA4.out o)).2.2.2.2.2.2.2.2.2.2.2
  have HF4 := Lib.hid hf4
  clear hf4
  go_wp2_with fail
  exact bodyPost_ret (results_cell_row rfl _ _ (w.heap.size + 1) _ _ (0, 0) _ rfl (set6_heap (HA4.out _) _ _ _ _ _ _) Try.underlying44 rfl (by kernel_rfl)) rfl
    (pdo_nil (a := ⟨0, false, 0, 0, (rk L k : Nat), []⟩) (L' := L) (rfl) rfl (ppost_same6 HP.out ((hff.out.trans hf3.out).trans (HF4.out _)) (by omega) _ _ _ _ _ _))

set_option maxHeartbeats 2000000 in
theorem pdo_rank_is (g c : Nat) (A : Option Addr) (most : Int) (L : List Pr) (k v : Int) (w : World) (hP : IsP w g A c most L) (hL : L.length ≤ 1073741824) (h1 : rk L k < L.length) (hi : isAt L k = true) :
    Calls Try.prog 14 #[.pointer (some ⟨g, 0, none⟩), .agg #[.int .i64 6, .int .u64 k, .int .u64 v]] w (PDoPost most L ⟨6, k, v⟩ g A w) := by
  have hrl := rk_le L k
  have hltg := hP.lt
  have hltA := Lib.hid hP.ltA
  have HP := Lib.hid hP
  go_enter Try.func14, Try.ntmps14
  go_wp2_with fail
  refine (prank_calls g c _ most L k _ (HP.out.fr (fr2 w _ _)) (by omega)).mono ?_
  rintro e w2 ⟨rfl, hw2⟩
  have ha := alloc2_snd w (.cells #[.int .i64 6, .int .u64 k, .int .u64 v] 33) (.cells #[.int .i64 0, .bool false, .int .u64 0, .int .u64 0, .int .i64 0, .slice none 0 0] 44)
  have ho := alloc2_fst w (.cells #[.int .i64 6, .int .u64 k, .int .u64 v] 33) (.cells #[.int .i64 0, .bool false, .int .u64 0, .int .u64 0, .int .i64 0, .slice none 0 0] 44)
  have hff := Lib.hid (fr2 w (.cells #[.int .i64 6, .int .u64 k, .int .u64 v] 33) (.cells #[.int .i64 0, .bool false, .int .u64 0, .int .u64 0, .int .i64 0, .slice none 0 0] 44))
  rw [← hw2] at ha ho hff
  clear hw2
  obtain ⟨o0, o1, o2⟩ := op_cells ho
  have HA := Lib.hid ha
  have HO := Lib.hid ho
  have hs2 : Hid (w.heap.size + 2 ≤ w2.heap.size) := (Array.getElem?_eq_some_iff.1 ha).1
  clear ha ho
  have HP2 := Lib.hid (HP.out.fr hff.out)
  have c1 := HP2.out.c1
  obtain ⟨gA, rfl, hc⟩ := HP2.out.cells (by omega)
  have HC := Lib.hid hc
  have hck := (hc _ h1).1
  have hz : (rk L k : Int) < (L.length : Int) := by omega
  obtain ⟨G, hG⟩ : ∃ G : Int, G = (L.getD (rk L k) (0, 0)).1 := ⟨_, rfl⟩
  rw [← hG] at hck
  have hgk : (G == k) = isAt L k := by
    unfold isAt
    have e : L[rk L k]? = some (L.getD (rk L k) (0, 0)) := by simp [h1]
    rw [e, hG]
  rw [hi] at hgk
  have HI := Lib.hid hi
  have HG := Lib.hid hG
  obtain ⟨V, hV⟩ : ∃ V : Int, V = (L.getD (rk L k) (0, 0)).2 := ⟨_, rfl⟩
  have HV := Lib.hid hV
  clear hc hG hi hP hV
  go_wp2_with fail
  go_quiet (fail)
  obtain ⟨w3, hw3⟩ : ∃ w3, w3 = w2.drewN nq := ⟨_, rfl⟩
  rw [← hw3]
  have hf3 : Hid (Fr w2 w3) := by rw [hw3]; exact fr_drewN _ _
  clear hw3
  have HA3 := Lib.hid (hf3.out.blk HA.out)
  obtain ⟨q0, q1, q2⟩ := op_cells (hf3.out.blk HO.out)
  have HP3 := Lib.hid (HP2.out.fr hf3.out)
  have d1 := HP3.out.c1
  have hs3 : Hid (w.heap.size + 2 ≤ w3.heap.size) := Nat.le_trans hs2.out hf3.out.size
  have hf4 : ∀ o, Fr w3 (w3.alloc o) := fun o => (Fr.refl w3).alloc o
  have q0a := fun o => (hf4 o).cell q0
  have q1a := fun o => (hf4 o).cell q1
  have q2a := fun o => (hf4 o).cell q2
  have d1a := fun o => (hf4 o).cell d1
  have hcv : ∀ o, (w3.alloc o).cell? ⟨gA, rk L k * 2 + 1, none⟩ = some (.int .u64 V) := fun o => by rw [HV.out]; exact (hf4 o).cell (hf3.out.cell (HC.out _ h1).2)
  have hckv : ∀ o, (w3.alloc o).cell? ⟨gA, rk L k * 2, none⟩ = some (.int .u64 G) := fun o => by rw [HG.out]; exact (hf4 o).cell (hf3.out.cell (HC.out _ h1).1)
  have HA4 : Hid (∀ o, (w3.alloc o).heap[w.heap.size + 1]? = _) := fun o => (hf4 o).blk HA3.out
  have z0 := fun o => (ans_cells (HA4.out o)).1
  have z1 := fun o => (ans_cells (HA4.out o)).2.1
  have z2 := fun o => (ans_cells (HA4.out o)).2.2.1
  have z3 := fun o => (ans_cells (HA4.out o)).2.2.2.1
  have z4 := fun o => (ans_cells (HA4.out o)).2.2.2.2.1
  have z5 := fun o => (ans_cells (HA4.out o)).2.2.2.2.2.1
  have y0 := fun o => (ans_cells (HA4.out o)).2.2.2.2.2.2.1
  have y1 := fun o => (ans_cells (HA4.out o)).2.2.2.2.2.2.2.1
  have y2 := fun o => (ans_cells (HA4.out o)).2.2.2.2.2.2.2.2.1
  have y3 := fun o => (ans_cells (HA4.out o)).2.2.2.2.2.2.2.2.2.1
  have y4 := fun o => (ans_cells (HA4.out o)).2.2.2.2.2.2.2.2.2.2.1
  have y5 := fun o => (ans_cells (HA4.out o)).2.2.2.2.2.2.2.2.2.2.2
  have HF4 := Lib.hid hf4
  clear hf4
  go_wp2_with fail
  exact bodyPost_ret (results_cell_row rfl _ _ (w.heap.size + 1) _ _ (0, 0) _ rfl (set6_heap (HA4.out _) _ _ _ _ _ _) Try.underlying44 rfl (by kernel_rfl)) rfl
    (pdo_nil (a := ⟨0, false, 0, 0, (rk L k : Nat), []⟩) (L' := L) (rfl) rfl (ppost_same6 HP.out ((hff.out.trans hf3.out).trans (HF4.out _)) (by omega) _ _ _ _ _ _))

set_option maxHeartbeats 2000000 in
theorem pdo_rank_no (g c : Nat) (A : Option Addr) (most : Int) (L : List Pr) (k v : Int) (w : World) (hP : IsP w g A c most L) (hL : L.length ≤ 1073741824) (h1 : rk L k < L.length) (hi : isAt L k = false) :
    Calls Try.prog 14 #[.pointer (some ⟨g, 0, none⟩), .agg #[.int .i64 6, .int .u64 k, .int .u64 v]] w (PDoPost most L ⟨6, k, v⟩ g A w) := by
  have hrl := rk_le L k
  have hltg := hP.lt
  have hltA := Lib.hid hP.ltA
  have HP := Lib.hid hP
  go_enter Try.func14, Try.ntmps14
  go_wp2_with fail
  refine (prank_calls g c _ most L k _ (HP.out.fr (fr2 w _ _)) (by omega)).mono ?_
  rintro e w2 ⟨rfl, hw2⟩
  have ha := alloc2_snd w (.cells #[.int .i64 6, .int .u64 k, .int .u64 v] 33) (.cells #[.int .i64 0, .bool false, .int .u64 0, .int .u64 0, .int .i64 0, .slice none 0 0] 44)
  have ho := alloc2_fst w (.cells #[.int .i64 6, .int .u64 k, .int .u64 v] 33) (.cells #[.int .i64 0, .bool false, .int .u64 0, .int .u64 0, .int .i64 0, .slice none 0 0] 44)
  have hff := Lib.hid (fr2 w (.cells #[.int .i64 6, .int .u64 k, .int .u64 v] 33) (.cells #[.int .i64 0, .bool false, .int .u64 0, .int .u64 0, .int .i64 0, .slice none 0 0] 44))
  rw [← hw2] at ha ho hff
  clear hw2
  obtain ⟨o0, o1, o2⟩ := op_cells ho
  have HA := Lib.hid ha
  have HO := Lib.hid ho
  have hs2 : Hid (w.heap.size + 2 ≤ w2.heap.size) := (Array.getElem?_eq_some_iff.1 ha).1
  clear ha ho
  have HP2 := Lib.hid (HP.out.fr hff.out)
  have c1 := HP2.out.c1
  obtain ⟨gA, rfl, hc⟩ := HP2.out.cells (by omega)
  have HC := Lib.hid hc
  have hck := (hc _ h1).1
  have hz : (rk L k : Int) < (L.length : Int) := by omega
  obtain ⟨G, hG⟩ : ∃ G : Int, G = (L.getD (rk L k) (0, 0)).1 := ⟨_, rfl⟩
  rw [← hG] at hck
  have hgk : (G == k) = isAt L k := by
    unfold isAt
    have e : L[rk L k]? = some (L.getD (rk L k) (0, 0)) := by simp [h1]
    rw [e, hG]
  rw [hi] at hgk
  have HI := Lib.hid hi
  have HG := Lib.hid hG
  obtain ⟨V, hV⟩ : ∃ V : Int, V = (L.getD (rk L k) (0, 0)).2 := ⟨_, rfl⟩
  have HV := Lib.hid hV
  clear hc hG hi hP hV
  go_wp2_with fail
  go_quiet (fail)
  obtain ⟨w3, hw3⟩ : ∃ w3, w3 = w2.drewN nq := ⟨_, rfl⟩
  rw [← hw3]
  have hf3 : Hid (Fr w2 w3) := by rw [hw3]; exact fr_drewN _ _
  clear hw3
  have HA3 := Lib.hid (hf3.out.blk HA.out)
  obtain ⟨q0, q1, q2⟩ := op_cells (hf3.out.blk HO.out)
  have HP3 := Lib.hid (HP2.out.fr hf3.out)
  have d1 := HP3.out.c1
  have hs3 : Hid (w.heap.size + 2 ≤ w3.heap.size) := Nat.le_trans hs2.out hf3.out.size
  have hf4 : ∀ o, Fr w3 (w3.alloc o) := fun o => (Fr.refl w3).alloc o
  have q0a := fun o => (hf4 o).cell q0
  have q1a := fun o => (hf4 o).cell q1
  have q2a := fun o => (hf4 o).cell q2
  have d1a := fun o => (hf4 o).cell d1
  have hcv : ∀ o, (w3.alloc o).cell? ⟨gA, rk L k * 2 + 1, none⟩ = some (.int .u64 V) := fun o => by rw [HV.out]; exact (hf4 o).cell (hf3.out.cell (HC.out _ h1).2)
  have hckv : ∀ o, (w3.alloc o).cell? ⟨gA, rk L k * 2, none⟩ = some (.int .u64 G) := fun o => by rw [HG.out]; exact (hf4 o).cell (hf3.out.cell (HC.out _ h1).1)
  have HA4 : Hid (∀ o, (w3.alloc o).heap[w.heap.size + 1]? = _) := fun o => (hf4 o).blk HA3.out
  have z0 := fun o => (ans_cells (HA4.out o)).1
  have z1 := fun o => (ans_cells (HA4.out o)).2.1
  have z2 := fun o => (ans_cells (HA4.out o)).2.2.1
  have z3 := fun o => (ans_cells (HA4.out o)).2.2.2.1
  have z4 := fun o => (ans_cells (HA4.out o)).2.2.2.2.1
  have z5 := fun o => (ans_cells (HA4.out o)).2.2.2.2.2.1
  have y0 := fun o => (ans_cells (HA4.out o)).2.2.2.2.2.2.1
  have y1 := fun o => (ans_cells (HA4.out o)).2.2.2.2.2.2.2.1
  have y2 := fun o => (ans_cells (HA4.out o)).2.2.2.2.2.2.2.2.1
  have y3 := fun o => (ans_cells (HA4.out o)).2.2.2.2.2.2.2.2.2.1
  have y4 := fun o => (ans_cells (HA4.out o)).2.2.2.2.2.2.2.2.2.2.1
  have y5 := fun o => (ans_cells (HA4.out o)).2.2.2.2.2.2.2.2.2.2.2
  have HF4 := Lib.hid hf4
  clear hf4
  go_wp2_with fail
  exact bodyPost_ret (results_cell_row rfl _ _ (w.heap.size + 1) _ _ (0, 0) _ rfl (set6_heap (HA4.out _) _ _ _ _ _ _) Try.underlying44 rfl (by kernel_rfl)) rfl
    (pdo_nil (a := ⟨0, false, 0, 0, (rk L k : Nat), []⟩) (L' := L) (rfl) rfl (ppost_same6 HP.out ((hff.out.trans hf3.out).trans (HF4.out _)) (by omega) _ _ _ _ _ _))

set_option maxHeartbeats 2000000 in
theorem pdo_other_out (g c : Nat) (A : Option Addr) (most : Int) (L : List Pr) (k v : Int) (w : World) (hP : IsP w g A c most L) (hL : L.length ≤ 1073741824) (kd : Int) (hkd : kd ≠ 1 ∧ kd ≠ 2 ∧ kd ≠ 3 ∧ kd ≠ 4 ∧ kd ≠ 5 ∧ kd ≠ 6 ∧ kd ≠ 7) (h1 : L.length ≤ rk L k) :
    Calls Try.prog 14 #[.pointer (some ⟨g, 0, none⟩), .agg #[.int .i64 kd, .int .u64 k, .int .u64 v]] w (PDoPost most L ⟨kd, k, v⟩ g A w) := by
  have hrl := rk_le L k
  have hltg := hP.lt
  have hltA := Lib.hid hP.ltA
  have HP := Lib.hid hP
  have k1 : (kd == 1) = false := by simp; omega
  have k2 : (kd == 2) = false := by simp; omega
  have k3 : (kd == 3) = false := by simp; omega
  have k4 : (kd == 4) = false := by simp; omega
  have k5 : (kd == 5) = false := by simp; omega
  have k6 : (kd == 6) = false := by simp; omega
  have k7 : (kd == 7) = false := by simp; omega
  have hdo : Hid (does most L ⟨kd, k, v⟩ = (⟨1, false, 0, 0, 0, []⟩, L)) := by
    show _ = _
    unfold does
    simp only [if_neg hkd.1, if_neg hkd.2.1, if_neg hkd.2.2.1, if_neg hkd.2.2.2.1, if_neg hkd.2.2.2.2.1, if_neg hkd.2.2.2.2.2.1, if_neg hkd.2.2.2.2.2.2]
    rfl
  clear hkd
  go_enter Try.func14, Try.ntmps14
  go_wp2_with fail
  refine (prank_calls g c _ most L k _ (HP.out.fr (fr2 w _ _)) (by omega)).mono ?_
  rintro e w2 ⟨rfl, hw2⟩
  have ha := alloc2_snd w (.cells #[.int .i64 kd, .int .u64 k, .int .u64 v] 33) (.cells #[.int .i64 0, .bool false, .int .u64 0, .int .u64 0, .int .i64 0, .slice none 0 0] 44)
  have ho := alloc2_fst w (.cells #[.int .i64 kd, .int .u64 k, .int .u64 v] 33) (.cells #[.int .i64 0, .bool false, .int .u64 0, .int .u64 0, .int .i64 0, .slice none 0 0] 44)
  have hff := Lib.hid (fr2 w (.cells #[.int .i64 kd, .int .u64 k, .int .u64 v] 33) (.cells #[.int .i64 0, .bool false, .int .u64 0, .int .u64 0, .int .i64 0, .slice none 0 0] 44))
  rw [← hw2] at ha ho hff
  clear hw2
  obtain ⟨o0, o1, o2⟩ := op_cells ho
  have HA := Lib.hid ha
  have HO := Lib.hid ho
  have hs2 : Hid (w.heap.size + 2 ≤ w2.heap.size) := (Array.getElem?_eq_some_iff.1 ha).1
  clear ha ho
  have HP2 := Lib.hid (HP.out.fr hff.out)
  have c1 := HP2.out.c1
  have hz : decide (rk L k < L.length) = false := decide_eq_false (by omega)
  have hi : isAt L k = false := by
    unfold isAt
    rw [List.getElem?_eq_none h1]
  have HI := Lib.hid hi
  clear h1 hi hP
  go_wp2_with fail
  go_quiet (fail)
  obtain ⟨w3, hw3⟩ : ∃ w3, w3 = w2.drewN nq := ⟨_, rfl⟩
  rw [← hw3]
  have hf3 : Hid (Fr w2 w3) := by rw [hw3]; exact fr_drewN _ _
  clear hw3
  have HA3 := Lib.hid (hf3.out.blk HA.out)
  obtain ⟨q0, q1, q2⟩ := op_cells (hf3.out.blk HO.out)
  have HP3 := Lib.hid (HP2.out.fr hf3.out)
  have d1 := HP3.out.c1
  have hs3 : Hid (w.heap.size + 2 ≤ w3.heap.size) := Nat.le_trans hs2.out hf3.out.size
  have hf4 : ∀ o, Fr w3 (w3.alloc o) := fun o => (Fr.refl w3).alloc o
  have q0a := fun o => (hf4 o).cell q0
  have q1a := fun o => (hf4 o).cell q1
  have q2a := fun o => (hf4 o).cell q2
  have d1a := fun o => (hf4 o).cell d1
  have HA4 : Hid (∀ o, (w3.alloc o).heap[w.heap.size + 1]? = _) := fun o => (hf4 o).blk HA3.out
  have z0 := fun o => (ans_cells (HA4.out o)).1
  have z1 := fun o => (ans_cells (HA4.out o)).2.1
  have z2 := fun o => (ans_cells (HA4.out o)).2.2.1
  have z3 := fun o => (ans_cells (HA4.out o)).2.2.2.1
  have z4 := fun o => (ans_cells (HA4.out o)).2.2.2.2.1
  have z5 := fun o => (ans_cells (HA4.out o)).2.2.2.2.2.1
  have y0 := fun o => (ans_cells (HA4.out o)).2.2.2.2.2.2.1
  have y1 := fun o => (ans_cells (HA4.out o)).2.2.2.2.2.2.2.1
  have y2 := fun o => (ans_cells (HA4.out o)).2.2.2.2.2.2.2.2.1
  have y3 := fun o => (ans_cells (HA4.out o)).2.2.2.2.2.2.2.2.2.1
  have y4 := fun o => (ans_cells (HA4.out o)).2.2.2.2.2.2.2.2.2.2.1
  have y5 := fun o => (ans_cells (HA4.out o)).2.2.2.2.2.2.2.2.2.2.2
  have HF4 := Lib.hid hf4
  clear hf4
  go_wp2_with fail
  exact bodyPost_ret (results_cell_row rfl _ _ (w.heap.size + 1) _ _ (0, 0) _ rfl (set6_heap (HA4.out _) _ _ _ _ _ _) Try.underlying44 rfl (by kernel_rfl)) rfl
    (pdo_nil (a := ⟨1, false, 0, 0, 0, []⟩) (L' := L) (hdo.out) rfl (ppost_same6 HP.out ((hff.out.trans hf3.out).trans (HF4.out _)) (by omega) _ _ _ _ _ _))

set_option maxHeartbeats 2000000 in
theorem pdo_other_is (g c : Nat) (A : Option Addr) (most : Int) (L : List Pr) (k v : Int) (w : World) (hP : IsP w g A c most L) (hL : L.length ≤ 1073741824) (kd : Int) (hkd : kd ≠ 1 ∧ kd ≠ 2 ∧ kd ≠ 3 ∧ kd ≠ 4 ∧ kd ≠ 5 ∧ kd ≠ 6 ∧ kd ≠ 7) (h1 : rk L k < L.length) (hi : isAt L k = true) :
    Calls Try.prog 14 #[.pointer (some ⟨g, 0, none⟩), .agg #[.int .i64 kd, .int .u64 k, .int .u64 v]] w (PDoPost most L ⟨kd, k, v⟩ g A w) := by
  have hrl := rk_le L k
  have hltg := hP.lt
  have hltA := Lib.hid hP.ltA
  have HP := Lib.hid hP
  have k1 : (kd == 1) = false := by simp; omega
  have k2 : (kd == 2) = false := by simp; omega
  have k3 : (kd == 3) = false := by simp; omega
  have k4 : (kd == 4) = false := by simp; omega
  have k5 : (kd == 5) = false := by simp; omega
  have k6 : (kd == 6) = false := by simp; omega
  have k7 : (kd == 7) = false := by simp; omega
  have hdo : Hid (does most L ⟨kd, k, v⟩ = (⟨1, false, 0, 0, 0, []⟩, L)) := by
    show _ = _
    unfold does
    simp only [if_neg hkd.1, if_neg hkd.2.1, if_neg hkd.2.2.1, if_neg hkd.2.2.2.1, if_neg hkd.2.2.2.2.1, if_neg hkd.2.2.2.2.2.1, if_neg hkd.2.2.2.2.2.2]
    rfl
  clear hkd
  go_enter Try.func14, Try.ntmps14
  go_wp2_with fail
  refine (prank_calls g c _ most L k _ (HP.out.fr (fr2 w _ _)) (by omega)).mono ?_
  rintro e w2 ⟨rfl, hw2⟩
  have ha := alloc2_snd w (.cells #[.int .i64 kd, .int .u64 k, .int .u64 v] 33) (.cells #[.int .i64 0, .bool false, .int .u64 0, .int .u64 0, .int .i64 0, .slice none 0 0] 44)
  have ho := alloc2_fst w (.cells #[.int .i64 kd, .int .u64 k, .int .u64 v] 33) (.cells #[.int .i64 0, .bool false, .int .u64 0, .int .u64 0, .int .i64 0, .slice none 0 0] 44)
  have hff := Lib.hid (fr2 w (.cells #[.int .i64 kd, .int .u64 k, .int .u64 v] 33) (.cells #[.int .i64 0, .bool false, .int .u64 0, .int .u64 0, .int .i64 0, .slice none 0 0] 44))
  rw [← hw2] at ha ho hff
  clear hw2
  obtain ⟨o0, o1, o2⟩ := op_cells ho
  have HA := Lib.hid ha
  have HO := Lib.hid ho
  have hs2 : Hid (w.heap.size + 2 ≤ w2.heap.size) := (Array.getElem?_eq_some_iff.1 ha).1
  clear ha ho
  have HP2 := Lib.hid (HP.out.fr hff.out)
  have c1 := HP2.out.c1
  obtain ⟨gA, rfl, hc⟩ := HP2.out.cells (by omega)
  have HC := Lib.hid hc
  have hck := (hc _ h1).1
  have hz : (rk L k : Int) < (L.length : Int) := by omega
  obtain ⟨G, hG⟩ : ∃ G : Int, G = (L.getD (rk L k) (0, 0)).1 := ⟨_, rfl⟩
  rw [← hG] at hck
  have hgk : (G == k) = isAt L k := by
    unfold isAt
    have e : L[rk L k]? = some (L.getD (rk L k) (0, 0)) := by simp [h1]
    rw [e, hG]
  rw [hi] at hgk
  have HI := Lib.hid hi
  have HG := Lib.hid hG
  obtain ⟨V, hV⟩ : ∃ V : Int, V = (L.getD (rk L k) (0, 0)).2 := ⟨_, rfl⟩
  have HV := Lib.hid hV
  clear hc hG hi hP hV
  go_wp2_with fail
  go_quiet (fail)
  obtain ⟨w3, hw3⟩ : ∃ w3, w3 = w2.drewN nq := ⟨_, rfl⟩
  rw [← hw3]
  have hf3 : Hid (Fr w2 w3) := by rw [hw3]; exact fr_drewN _ _
  clear hw3
  have HA3 := Lib.hid (hf3.out.blk HA.out)
  obtain ⟨q0, q1, q2⟩ := op_cells (hf3.out.blk HO.out)
  have HP3 := Lib.hid (HP2.out.fr hf3.out)
  have d1 := HP3.out.c1
  have hs3 : Hid (w.heap.size + 2 ≤ w3.heap.size) := Nat.le_trans hs2.out hf3.out.size
  have hf4 : ∀ o, Fr w3 (w3.alloc o) := fun o => (Fr.refl w3).alloc o
  have q0a := fun o => (hf4 o).cell q0
  have q1a := fun o => (hf4 o).cell q1
  have q2a := fun o => (hf4 o).cell q2
  have d1a := fun o => (hf4 o).cell d1
  have hcv : ∀ o, (w3.alloc o).cell? ⟨gA, rk L k * 2 + 1, none⟩ = some (.int .u64 V) := fun o => by rw [HV.out]; exact (hf4 o).cell (hf3.out.cell (HC.out _ h1).2)
  have hckv : ∀ o, (w3.alloc o).cell? ⟨gA, rk L k * 2, none⟩ = some (.int .u64 G) := fun o => by rw [HG.out]; exact (hf4 o).cell (hf3.out.cell (HC.out _ h1).1)
  have HA4 : Hid (∀ o, (w3.alloc o).heap[w.heap.size + 1]? = _) := fun o => (hf4 o).blk HA3.out
  have z0 := fun o => (ans_cells (HA4.out o)).1
  have z1 := fun o => (ans_cells (HA4.out o)).2.1
  have z2 := fun o => (ans_cells (HA4.out o)).2.2.1
  have z3 := fun o => (ans_cells (HA4.out o)).2.2.2.1
  have z4 := fun o => (ans_cells (HA4.out o)).2.2.2.2.1
  have z5 := fun o => (ans_cells (HA4.out o)).2.2.2.2.2.1
  have y0 := fun o => (ans_cells (HA4.out o)).2.2.2.2.2.2.1
  have y1 := fun o => (ans_cells (HA4.out o)).2.2.2.2.2.2.2.1
  have y2 := fun o => (ans_cells (HA4.out o)).2.2.2.2.2.2.2.2.1
  have y3 := fun o => (ans_cells (HA4.out o)).2.2.2.2.2.2.2.2.2.1
  have y4 := fun o => (ans_cells (HA4.out o)).2.2.2.2.2.2.2.2.2.2.1
  have y5 := fun o => (ans_cells (HA4.out o)).2.2.2.2.2.2.2.2.2.2.2
  have HF4 := Lib.hid hf4
  clear hf4
  go_wp2_with fail
  exact bodyPost_ret (results_cell_row rfl _ _ (w.heap.size + 1) _ _ (0, 0) _ rfl (set6_heap (HA4.out _) _ _ _ _ _ _) Try.underlying44 rfl (by kernel_rfl)) rfl
    (pdo_nil (a := ⟨1, false, 0, 0, 0, []⟩) (L' := L) (hdo.out) rfl (ppost_same6 HP.out ((hff.out.trans hf3.out).trans (HF4.out _)) (by omega) _ _ _ _ _ _))

set_option maxHeartbeats 2000000 in
theorem pdo_other_no (g c : Nat) (A : Option Addr) (most : Int) (L : List Pr) (k v : Int) (w : World) (hP : IsP w g A c most L) (hL : L.length ≤ 1073741824) (kd : Int) (hkd : kd ≠ 1 ∧ kd ≠ 2 ∧ kd ≠ 3 ∧ kd ≠ 4 ∧ kd ≠ 5 ∧ kd ≠ 6 ∧ kd ≠ 7) (h1 : rk L k < L.length) (hi : isAt L k = false) :
    Calls Try.prog 14 #[.pointer (some ⟨g, 0, none⟩), .agg #[.int .i64 kd, .int .u64 k, .int .u64 v]] w (PDoPost most L ⟨kd, k, v⟩ g A w) := by
  have hrl := rk_le L k
  have hltg := hP.lt
  have hltA := Lib.hid hP.ltA
  have HP := Lib.hid hP
  have k1 : (kd == 1) = false := by simp; omega
  have k2 : (kd == 2) = false := by simp; omega
  have k3 : (kd == 3) = false := by simp; omega
  have k4 : (kd == 4) = false := by simp; omega
  have k5 : (kd == 5) = false := by simp; omega
  have k6 : (kd == 6) = false := by simp; omega
  have k7 : (kd == 7) = false := by simp; omega
  have hdo : Hid (does most L ⟨kd, k, v⟩ = (⟨1, false, 0, 0, 0, []⟩, L)) := by
    show _ = _
    unfold does
    simp only [if_neg hkd.1, if_neg hkd.2.1, if_neg hkd.2.2.1, if_neg hkd.2.2.2.1, if_neg hkd.2.2.2.2.1, if_neg hkd.2.2.2.2.2.1, if_neg hkd.2.2.2.2.2.2]
    rfl
  clear hkd
  go_enter Try.func14, Try.ntmps14
  go_wp2_with fail
  refine (prank_calls g c _ most L k _ (HP.out.fr (fr2 w _ _)) (by omega)).mono ?_
  rintro e w2 ⟨rfl, hw2⟩
  have ha := alloc2_snd w (.cells #[.int .i64 kd, .int .u64 k, .int .u64 v] 33) (.cells #[.int .i64 0, .bool false, .int .u64 0, .int .u64 0, .int .i64 0, .slice none 0 0] 44)
  have ho := alloc2_fst w (.cells #[.int .i64 kd, .int .u64 k, .int .u64 v] 33) (.cells #[.int .i64 0, .bool false, .int .u64 0, .int .u64 0, .int .i64 0, .slice none 0 0] 44)
  have hff := Lib.hid (fr2 w (.cells #[.int .i64 kd, .int .u64 k, .int .u64 v] 33) (.cells #[.int .i64 0, .bool false, .int .u64 0, .int .u64 0, .int .i64 0, .slice none 0 0] 44))
  rw [← hw2] at ha ho hff
  clear hw2
  obtain ⟨o0, o1, o2⟩ := op_cells ho
  have HA := Lib.hid ha
  have HO := Lib.hid ho
  have hs2 : Hid (w.heap.size + 2 ≤ w2.heap.size) := (Array.getElem?_eq_some_iff.1 ha).1
  clear ha ho
  have HP2 := Lib.hid (HP.out.fr hff.out)
  have c1 := HP2.out.c1
  obtain ⟨gA, rfl, hc⟩ := HP2.out.cells (by omega)
  have HC := Lib.hid hc
  have hck := (hc _ h1).1
  have hz : (rk L k : Int) < (L.length : Int) := by omega
  obtain ⟨G, hG⟩ : ∃ G : Int, G = (L.getD (rk L k) (0, 0)).1 := ⟨_, rfl⟩
  rw [← hG] at hck
  have hgk : (G == k) = isAt L k := by
    unfold isAt
    have e : L[rk L k]? = some (L.getD (rk L k) (0, 0)) := by simp [h1]
    rw [e, hG]
  rw [hi] at hgk
  have HI := Lib.hid hi
  have HG := Lib.hid hG
  obtain ⟨V, hV⟩ : ∃ V : Int, V = (L.getD (rk L k) (0, 0)).2 := ⟨_, rfl⟩
  have HV := Lib.hid hV
  clear hc hG hi hP hV
  go_wp2_with fail
  go_quiet (fail)
  obtain ⟨w3, hw3⟩ : ∃ w3, w3 = w2.drewN nq := ⟨_, rfl⟩
  rw [← hw3]
  have hf3 : Hid (Fr w2 w3) := by rw [hw3]; exact fr_drewN _ _
  clear hw3
  have HA3 := Lib.hid (hf3.out.blk HA.out)
  obtain ⟨q0, q1, q2⟩ := op_cells (hf3.out.blk HO.out)
  have HP3 := Lib.hid (HP2.out.fr hf3.out)
  have d1 := HP3.out.c1
  have hs3 : Hid (w.heap.size + 2 ≤ w3.heap.size) := Nat.le_trans hs2.out hf3.out.size
  have hf4 : ∀ o, Fr w3 (w3.alloc o) := fun o => (Fr.refl w3).alloc o
  have q0a := fun o => (hf4 o).cell q0
  have q1a := fun o => (hf4 o).cell q1
  have q2a := fun o => (hf4 o).cell q2
  have d1a := fun o => (hf4 o).cell d1
  have hcv : ∀ o, (w3.alloc o).cell? ⟨gA, rk L k * 2 + 1, none⟩ = some (.int .u64 V) := fun o => by rw [HV.out]; exact (hf4 o).cell (hf3.out.cell (HC.out _ h1).2)
  have hckv : ∀ o, (w3.alloc o).cell? ⟨gA, rk L k * 2, none⟩ = some (.int .u64 G) := fun o => by rw [HG.out]; exact (hf4 o).cell (hf3.out.cell (HC.out _ h1).1)
  have HA4 : Hid (∀ o, (w3.alloc o).heap[w.heap.size + 1]? = _) := fun o => (hf4 o).blk HA3.out
  have z0 := fun o => (ans_cells (HA4.out o)).1
  have z1 := fun o => (ans_cells (HA4.out o)).2.1
  have z2 := fun o => (ans_cells (HA4.out o)).2.2.1
  have z3 := fun o => (ans_cells (HA4.out o)).2.2.2.1
  have z4 := fun o => (ans_cells (HA4.out o)).2.2.2.2.1
  have z5 := fun o => (ans_cells (HA4.out o)).2.2.2.2.2.1
  have y0 := fun o => (ans_cells (HA4.out o)).2.2.2.2.2.2.1
  have y1 := fun o => (ans_cells (HA4.out o)).2.2.2.2.2.2.2.1
  have y2 := fun o => (ans_cells (HA4.out o)).2.2.2.2.2.2.2.2.1
  have y3 := fun o => (ans_cells (HA4.out o)).2.2.2.2.2.2.2.2.2.1
  have y4 := fun o => (ans_cells (HA4.out o)).2.2.2.2.2.2.2.2.2.2.1
  have y5 := fun o => (ans_cells (HA4.out o)).2.2.2.2.2.2.2.2.2.2.2
  have HF4 := Lib.hid hf4
  clear hf4
  go_wp2_with fail
  exact bodyPost_ret (results_cell_row rfl _ _ (w.heap.size + 1) _ _ (0, 0) _ rfl (set6_heap (HA4.out _) _ _ _ _ _ _) Try.underlying44 rfl (by kernel_rfl)) rfl
    (pdo_nil (a := ⟨1, false, 0, 0, 0, []⟩) (L' := L) (hdo.out) rfl (ppost_same6 HP.out ((hff.out.trans hf3.out).trans (HF4.out _)) (by omega) _ _ _ _ _ _))

set_option maxHeartbeats 2000000 in
theorem pdo_get_out (g c : Nat) (A : Option Addr) (most : Int) (L : List Pr) (k v : Int) (w : World) (hP : IsP w g A c most L) (hL : L.length ≤ 1073741824) (h1 : L.length ≤ rk L k) :
    Calls Try.prog 14 #[.pointer (some ⟨g, 0, none⟩), .agg #[.int .i64 3, .int .u64 k, .int .u64 v]] w (PDoPost most L ⟨3, k, v⟩ g A w) := by
  have hrl := rk_le L k
  have hltg := hP.lt
  have hltA := Lib.hid hP.ltA
  have HP := Lib.hid hP
  go_enter Try.func14, Try.ntmps14
  go_wp2_with fail
  refine (prank_calls g c _ most L k _ (HP.out.fr (fr2 w _ _)) (by omega)).mono ?_
  rintro e w2 ⟨rfl, hw2⟩
  have ha := alloc2_snd w (.cells #[.int .i64 3, .int .u64 k, .int .u64 v] 33) (.cells #[.int .i64 0, .bool false, .int .u64 0, .int .u64 0, .int .i64 0, .slice none 0 0] 44)
  have ho := alloc2_fst w (.cells #[.int .i64 3, .int .u64 k, .int .u64 v] 33) (.cells #[.int .i64 0, .bool false, .int .u64 0, .int .u64 0, .int .i64 0, .slice none 0 0] 44)
  have hff := Lib.hid (fr2 w (.cells #[.int .i64 3, .int .u64 k, .int .u64 v] 33) (.cells #[.int .i64 0, .bool false, .int .u64 0, .int .u64 0, .int .i64 0, .slice none 0 0] 44))
  rw [← hw2] at ha ho hff
  clear hw2
  obtain ⟨o0, o1, o2⟩ := op_cells ho
  have HA := Lib.hid ha
  have HO := Lib.hid ho
  have hs2 : Hid (w.heap.size + 2 ≤ w2.heap.size) := (Array.getElem?_eq_some_iff.1 ha).1
  clear ha ho
  have HP2 := Lib.hid (HP.out.fr hff.out)
  have c1 := HP2.out.c1
  have hz : decide (rk L k < L.length) = false := decide_eq_false (by omega)
  have hi : isAt L k = false := by
    unfold isAt
    rw [List.getElem?_eq_none h1]
  have HI := Lib.hid hi
  clear h1 hi hP
  go_wp2_with fail
  go_quiet (fail)
  obtain ⟨w3, hw3⟩ : ∃ w3, w3 = w2.drewN nq := ⟨_, rfl⟩
  rw [← hw3]
  have hf3 : Hid (Fr w2 w3) := by rw [hw3]; exact fr_drewN _ _
  clear hw3
  have HA3 := Lib.hid (hf3.out.blk HA.out)
  obtain ⟨q0, q1, q2⟩ := op_cells (hf3.out.blk HO.out)
  have HP3 := Lib.hid (HP2.out.fr hf3.out)
  have d1 := HP3.out.c1
  have hs3 : Hid (w.heap.size + 2 ≤ w3.heap.size) := Nat.le_trans hs2.out hf3.out.size
  have hf4 : ∀ o, Fr w3 (w3.alloc o) := fun o => (Fr.refl w3).alloc o
  have q0a := fun o => (hf4 o).cell q0
  have q1a := fun o => (hf4 o).cell q1
  have q2a := fun o => (hf4 o).cell q2
  have d1a := fun o => (hf4 o).cell d1
  have HA4 : Hid (∀ o, (w3.alloc o).heap[w.heap.size + 1]? = _) := fun o => (hf4 o).blk HA3.out
  have z0 := fun o => (ans_cells (HA4.out o)).1
  have z1 := fun o => (ans_cells (HA4.out o)).2.1
  have z2 := fun o => (ans_cells (HA4.out o)).2.2.1
  have z3 := fun o => (ans_cells (HA4.out o)).2.2.2.1
  have z4 := fun o => (ans_cells (HA4.out o)).2.2.2.2.1
  have z5 := fun o => (ans_cells (HA4.out o)).2.2.2.2.2.1
  have y0 := fun o => (ans_cells (HA4.out o)).2.2.2.2.2.2.1
  have y1 := fun o => (ans_cells (HA4.out o)).2.2.2.2.2.2.2.1
  have y2 := fun o => (ans_cells (HA4.out o)).2.2.2.2.2.2.2.2.1
  have y3 := fun o => (ans_cells (HA4.out o)).2.2.2.2.2.2.2.2.2.1
  have y4 := fun o => (ans_cells (HA4.out o)).2.2.2.2.2.2.2.2.2.2.1
  have y5 := fun o => (ans_cells (HA4.out o)).2.2.2.2.2.2.2.2.2.2.2
  have HF4 := Lib.hid hf4
  clear hf4
  go_wp2_with fail
  exact bodyPost_ret (results_cell_row rfl _ _ (w.heap.size + 1) _ _ (0, 0) _ rfl (set6_heap (HA4.out _) _ _ _ _ _ _) Try.underlying44 rfl (by kernel_rfl)) rfl
    (pdo_nil (a := ⟨0, false, 0, 0, 0, []⟩) (L' := L) ((does3 _ _ _ _).trans (by rw [HI.out, valAt_not HI.out])) rfl (ppost_same6 HP.out ((hff.out.trans hf3.out).trans (HF4.out _)) (by omega) _ _ _ _ _ _))

set_option maxHeartbeats 2000000 in
theorem pdo_get_is (g c : Nat) (A : Option Addr) (most : Int) (L : List Pr) (k v : Int) (w : World) (hP : IsP w g A c most L) (hL : L.length ≤ 1073741824) (h1 : rk L k < L.length) (hi : isAt L k = true) :
    Calls Try.prog 14 #[.pointer (some ⟨g, 0, none⟩), .agg #[.int .i64 3, .int .u64 k, .int .u64 v]] w (PDoPost most L ⟨3, k, v⟩ g A w) := by
  have hrl := rk_le L k
  have hltg := hP.lt
  have hltA := Lib.hid hP.ltA
  have HP := Lib.hid hP
  go_enter Try.func14, Try.ntmps14
  go_wp2_with fail
  refine (prank_calls g c _ most L k _ (HP.out.fr (fr2 w _ _)) (by omega)).mono ?_
  rintro e w2 ⟨rfl, hw2⟩
  have ha := alloc2_snd w (.cells #[.int .i64 3, .int .u64 k, .int .u64 v] 33) (.cells #[.int .i64 0, .bool false, .int .u64 0, .int .u64 0, .int .i64 0, .slice none 0 0] 44)
  have ho := alloc2_fst w (.cells #[.int .i64 3, .int .u64 k, .int .u64 v] 33) (.cells #[.int .i64 0, .bool false, .int .u64 0, .int .u64 0, .int .i64 0, .slice none 0 0] 44)
  have hff := Lib.hid (fr2 w (.cells #[.int .i64 3, .int .u64 k, .int .u64 v] 33) (.cells #[.int .i64 0, .bool false, .int .u64 0, .int .u64 0, .int .i64 0, .slice none 0 0] 44))
  rw [← hw2] at ha ho hff
  clear hw2
  obtain ⟨o0, o1, o2⟩ := op_cells ho
  have HA := Lib.hid ha
  have HO := Lib.hid ho
  have hs2 : Hid (w.heap.size + 2 ≤ w2.heap.size) := (Array.getElem?_eq_some_iff.1 ha).1
  clear ha ho
  have HP2 := Lib.hid (HP.out.fr hff.out)
  have c1 := HP2.out.c1
  obtain ⟨gA, rfl, hc⟩ := HP2.out.cells (by omega)
  have HC := Lib.hid hc
  have hck := (hc _ h1).1
  have hz : (rk L k : Int) < (L.length : Int) := by omega
  obtain ⟨G, hG⟩ : ∃ G : Int, G = (L.getD (rk L k) (0, 0)).1 := ⟨_, rfl⟩
  rw [← hG] at hck
  have hgk : (G == k) = isAt L k := by
    unfold isAt
    have e : L[rk L k]? = some (L.getD (rk L k) (0, 0)) := by simp [h1]
    rw [e, hG]
  rw [hi] at hgk
  have HI := Lib.hid hi
  have HG := Lib.hid hG
  obtain ⟨V, hV⟩ : ∃ V : Int, V = (L.getD (rk L k) (0, 0)).2 := ⟨_, rfl⟩
  have HV := Lib.hid hV
  clear hc hG hi hP hV
  go_wp2_with fail
  go_quiet (fail)
  obtain ⟨w3, hw3⟩ : ∃ w3, w3 = w2.drewN nq := ⟨_, rfl⟩
  rw [← hw3]
  have hf3 : Hid (Fr w2 w3) := by rw [hw3]; exact fr_drewN _ _
  clear hw3
  have HA3 := Lib.hid (hf3.out.blk HA.out)
  obtain ⟨q0, q1, q2⟩ := op_cells (hf3.out.blk HO.out)
  have HP3 := Lib.hid (HP2.out.fr hf3.out)
  have d1 := HP3.out.c1
  have hs3 : Hid (w.heap.size + 2 ≤ w3.heap.size) := Nat.le_trans hs2.out hf3.out.size
  have hf4 : ∀ o, Fr w3 (w3.alloc o) := fun o => (Fr.refl w3).alloc o
  have q0a := fun o => (hf4 o).cell q0
  have q1a := fun o => (hf4 o).cell q1
  have q2a := fun o => (hf4 o).cell q2
  have d1a := fun o => (hf4 o).cell d1
  have hcv : ∀ o, (w3.alloc o).cell? ⟨gA, rk L k * 2 + 1, none⟩ = some (.int .u64 V) := fun o => by rw [HV.out]; exact (hf4 o).cell (hf3.out.cell (HC.out _ h1).2)
  have hckv : ∀ o, (w3.alloc o).cell? ⟨gA, rk L k * 2, none⟩ = some (.int .u64 G) := fun o => by rw [HG.out]; exact (hf4 o).cell (hf3.out.cell (HC.out _ h1).1)
  have HA4 : Hid (∀ o, (w3.alloc o).heap[w.heap.size + 1]? = _) := fun o => (hf4 o).blk HA3.out
  have z0 := fun o => (ans_cells (HA4.out o)).1
  have z1 := fun o => (ans_cells (HA4.out o)).2.1
  have z2 := fun o => (ans_cells (HA4.out o)).2.2.1
  have z3 := fun o => (ans_cells (HA4.out o)).2.2.2.1
  have z4 := fun o => (ans_cells (HA4.out o)).2.2.2.2.1
  have z5 := fun o => (ans_cells (HA4.out o)).2.2.2.2.2.1
  have y0 := fun o => (ans_cells (HA4.out o)).2.2.2.2.2.2.1
  have y1 := fun o => (ans_cells (HA4.out o)).2.2.2.2.2.2.2.1
  have y2 := fun o => (ans_cells (HA4.out o)).2.2.2.2.2.2.2.2.1
  have y3 := fun o => (ans_cells (HA4.out o)).2.2.2.2.2.2.2.2.2.1
  have y4 := fun o => (ans_cells (HA4.out o)).2.2.2.2.2.2.2.2.2.2.1
  have y5 := fun o => (ans_cells (HA4.out o)).2.2.2.2.2.2.2.2.2.2.2
  have HF4 := Lib.hid hf4
  clear hf4
  go_wp2_with fail
  exact bodyPost_ret (results_cell_row rfl _ _ (w.heap.size + 1) _ _ (0, 0) _ rfl (set6_heap (HA4.out _) _ _ _ _ _ _) Try.underlying44 rfl (by kernel_rfl)) rfl
    (pdo_nil (a := ⟨0, true, 0, V, 0, []⟩) (L' := L) ((does3 _ _ _ _).trans (by rw [HI.out, val_is HI.out, HV.out])) rfl (ppost_same6 HP.out ((hff.out.trans hf3.out).trans (HF4.out _)) (by omega) _ _ _ _ _ _))

set_option maxHeartbeats 2000000 in
theorem pdo_get_no (g c : Nat) (A : Option Addr) (most : Int) (L : List Pr) (k v : Int) (w : World) (hP : IsP w g A c most L) (hL : L.length ≤ 1073741824) (h1 : rk L k < L.length) (hi : isAt L k = false) :
    Calls Try.prog 14 #[.pointer (some ⟨g, 0, none⟩), .agg #[.int .i64 3, .int .u64 k, .int .u64 v]] w (PDoPost most L ⟨3, k, v⟩ g A w) := by
  have hrl := rk_le L k
  have hltg := hP.lt
  have hltA := Lib.hid hP.ltA
  have HP := Lib.hid hP
  go_enter Try.func14, Try.ntmps14
  go_wp2_with fail
  refine (prank_calls g c _ most L k _ (HP.out.fr (fr2 w _ _)) (by omega)).mono ?_
  rintro e w2 ⟨rfl, hw2⟩
  have ha := alloc2_snd w (.cells #[.int .i64 3, .int .u64 k, .int .u64 v] 33) (.cells #[.int .i64 0, .bool false, .int .u64 0, .int .u64 0, .int .i64 0, .slice none 0 0] 44)
  have ho := alloc2_fst w (.cells #[.int .i64 3, .int .u64 k, .int .u64 v] 33) (.cells #[.int .i64 0, .bool false, .int .u64 0, .int .u64 0, .int .i64 0, .slice none 0 0] 44)
  have hff := Lib.hid (fr2 w (.cells #[.int .i64 3, .int .u64 k, .int .u64 v] 33) (.cells #[.int .i64 0, .bool false, .int .u64 0, .int .u64 0, .int .i64 0, .slice none 0 0] 44))
  rw [← hw2] at ha ho hff
  clear hw2
  obtain ⟨o0, o1, o2⟩ := op_cells ho
  have HA := Lib.hid ha
  have HO := Lib.hid ho
  have hs2 : Hid (w.heap.size + 2 ≤ w2.heap.size) := (Array.getElem?_eq_some_iff.1 ha).1
  clear ha ho
  have HP2 := Lib.hid (HP.out.fr hff.out)
  have c1 := HP2.out.c1
  obtain ⟨gA, rfl, hc⟩ := HP2.out.cells (by omega)
  have HC := Lib.hid hc
  have hck := (hc _ h1).1
  have hz : (rk L k : Int) < (L.length : Int) := by omega
  obtain ⟨G, hG⟩ : ∃ G : Int, G = (L.getD (rk L k) (0, 0)).1 := ⟨_, rfl⟩
  rw [← hG] at hck
  have hgk : (G == k) = isAt L k := by
    unfold isAt
    have e : L[rk L k]? = some (L.getD (rk L k) (0, 0)) := by simp [h1]
    rw [e, hG]
  rw [hi] at hgk
  have HI := Lib.hid hi
  have HG := Lib.hid hG
  obtain ⟨V, hV⟩ : ∃ V : Int, V = (L.getD (rk L k) (0, 0)).2 := ⟨_, rfl⟩
  have HV := Lib.hid hV
  clear hc hG hi hP hV
  go_wp2_with fail
  go_quiet (fail)
  obtain ⟨w3, hw3⟩ : ∃ w3, w3 = w2.drewN nq := ⟨_, rfl⟩
  rw [← hw3]
  have hf3 : Hid (Fr w2 w3) := by rw [hw3]; exact fr_drewN _ _
  clear hw3
  have HA3 := Lib.hid (hf3.out.blk HA.out)
  obtain ⟨q0, q1, q2⟩ := op_cells (hf3.out.blk HO.out)
  have HP3 := Lib.hid (HP2.out.fr hf3.out)
  have d1 := HP3.out.c1
  have hs3 : Hid (w.heap.size + 2 ≤ w3.heap.size) := Nat.le_trans hs2.out hf3.out.size
  have hf4 : ∀ o, Fr w3 (w3.alloc o) := fun o => (Fr.refl w3).alloc o
  have q0a := fun o => (hf4 o).cell q0
  have q1a := fun o => (hf4 o).cell q1
  have q2a := fun o => (hf4 o).cell q2
  have d1a := fun o => (hf4 o).cell d1
  have hcv : ∀ o, (w3.alloc o).cell? ⟨gA, rk L k * 2 + 1, none⟩ = some (.int .u64 V) := fun o => by rw [HV.out]; exact (hf4 o).cell (hf3.out.cell (HC.out _ h1).2)
  have hckv : ∀ o, (w3.alloc o).cell? ⟨gA, rk L k * 2, none⟩ = some (.int .u64 G) := fun o => by rw [HG.out]; exact (hf4 o).cell (hf3.out.cell (HC.out _ h1).1)
  have HA4 : Hid (∀ o, (w3.alloc o).heap[w.heap.size + 1]? = _) := fun o => (hf4 o).blk HA3.out
  have z0 := fun o => (ans_cells (HA4.out o)).1
  have z1 := fun o => (ans_cells (HA4.out o)).2.1
  have z2 := fun o => (ans_cells (HA4.out o)).2.2.1
  have z3 := fun o => (ans_cells (HA4.out o)).2.2.2.1
  have z4 := fun o => (ans_cells (HA4.out o)).2.2.2.2.1
  have z5 := fun o => (ans_cells (HA4.out o)).2.2.2.2.2.1
  have y0 := fun o => (ans_cells (HA4.out o)).2.2.2.2.2.2.1
  have y1 := fun o => (ans_cells (HA4.out o)).2.2.2.2.2.2.2.1
  have y2 := fun o => (ans_cells (HA4.out o)).2.2.2.2.2.2.2.2.1
  have y3 := fun o => (ans_cells (HA4.out o)).2.2.2.2.2.2.2.2.2.1
  have y4 := fun o => (ans_cells (HA4.out o)).2.2.2.2.2.2.2.2.2.2.1
  have y5 := fun o => (ans_cells (HA4.out o)).2.2.2.2.2.2.2.2.2.2.2
  have HF4 := Lib.hid hf4
  clear hf4
  go_wp2_with fail
  exact bodyPost_ret (results_cell_row rfl _ _ (w.heap.size + 1) _ _ (0, 0) _ rfl (set6_heap (HA4.out _) _ _ _ _ _ _) Try.underlying44 rfl (by kernel_rfl)) rfl
    (pdo_nil (a := ⟨0, false, 0, 0, 0, []⟩) (L' := L) ((does3 _ _ _ _).trans (by rw [HI.out, valAt_not HI.out])) rfl (ppost_same6 HP.out ((hff.out.trans hf3.out).trans (HF4.out _)) (by omega) _ _ _ _ _ _))

set_option maxHeartbeats 2000000 in
theorem pdo_ceil_out (g c : Nat) (A : Option Addr) (most : Int) (L : List Pr) (k v : Int) (w : World) (hP : IsP w g A c most L) (hL : L.length ≤ 1073741824) (h1 : L.length ≤ rk L k) :
    Calls Try.prog 14 #[.pointer (some ⟨g, 0, none⟩), .agg #[.int .i64 5, .int .u64 k, .int .u64 v]] w (PDoPost most L ⟨5, k, v⟩ g A w) := by
  have hrl := rk_le L k
  have hltg := hP.lt
  have hltA := Lib.hid hP.ltA
  have HP := Lib.hid hP
  have H1 := Lib.hid h1
  have hgz : decide ((rk L k : Int) ≥ 0) = true := decide_eq_true (by omega)
  go_enter Try.func14, Try.ntmps14
  go_wp2_with fail
  refine (prank_calls g c _ most L k _ (HP.out.fr (fr2 w _ _)) (by omega)).mono ?_
  rintro e w2 ⟨rfl, hw2⟩
  have ha := alloc2_snd w (.cells #[.int .i64 5, .int .u64 k, .int .u64 v] 33) (.cells #[.int .i64 0, .bool false, .int .u64 0, .int .u64 0, .int .i64 0, .slice none 0 0] 44)
  have ho := alloc2_fst w (.cells #[.int .i64 5, .int .u64 k, .int .u64 v] 33) (.cells #[.int .i64 0, .bool false, .int .u64 0, .int .u64 0, .int .i64 0, .slice none 0 0] 44)
  have hff := Lib.hid (fr2 w (.cells #[.int .i64 5, .int .u64 k, .int .u64 v] 33) (.cells #[.int .i64 0, .bool false, .int .u64 0, .int .u64 0, .int .i64 0, .slice none 0 0] 44))
  rw [← hw2] at ha ho hff
  clear hw2
  obtain ⟨o0, o1, o2⟩ := op_cells ho
  have HA := Lib.hid ha
  have HO := Lib.hid ho
  have hs2 : Hid (w.heap.size + 2 ≤ w2.heap.size) := (Array.getElem?_eq_some_iff.1 ha).1
  clear ha ho
  have HP2 := Lib.hid (HP.out.fr hff.out)
  have c1 := HP2.out.c1
  have hz : decide (rk L k < L.length) = false := decide_eq_false (by omega)
  have hi : isAt L k = false := by
    unfold isAt
    rw [List.getElem?_eq_none h1]
  have HI := Lib.hid hi
  clear h1 hi hP
  go_wp2_with fail
  go_quiet (fail)
  obtain ⟨w3, hw3⟩ : ∃ w3, w3 = w2.drewN nq := ⟨_, rfl⟩
  rw [← hw3]
  have hf3 : Hid (Fr w2 w3) := by rw [hw3]; exact fr_drewN _ _
  clear hw3
  have HA3 := Lib.hid (hf3.out.blk HA.out)
  obtain ⟨q0, q1, q2⟩ := op_cells (hf3.out.blk HO.out)
  have HP3 := Lib.hid (HP2.out.fr hf3.out)
  have d1 := HP3.out.c1
  have hs3 : Hid (w.heap.size + 2 ≤ w3.heap.size) := Nat.le_trans hs2.out hf3.out.size
  have hf4 : ∀ o, Fr w3 (w3.alloc o) := fun o => (Fr.refl w3).alloc o
  have q0a := fun o => (hf4 o).cell q0
  have q1a := fun o => (hf4 o).cell q1
  have q2a := fun o => (hf4 o).cell q2
  have d1a := fun o => (hf4 o).cell d1
  have HA4 : Hid (∀ o, (w3.alloc o).heap[w.heap.size + 1]? = _) := fun o => (hf4 o).blk HA3.out
  have z0 := fun o => (ans_cells (HA4.out o)).1
  have z1 := fun o => (ans_cells (HA4.out o)).2.1
  have z2 := fun o => (ans_cells (HA4.out o)).2.2.1
  have z3 := fun o => (ans_cells (HA4.out o)).2.2.2.1
  have z4 := fun o => (ans_cells (HA4.out o)).2.2.2.2.1
  have z5 := fun o => (ans_cells (HA4.out o)).2.2.2.2.2.1
  have y0 := fun o => (ans_cells (HA4.out o)).2.2.2.2.2.2.1
  have y1 := fun o => (ans_cells (HA4.out o)).2.2.2.2.2.2.2.1
  have y2 := fun o => (ans_cells (HA4.out o)).2.2.2.2.2.2.2.2.1
  have y3 := fun o => (ans_cells (HA4.out o)).2.2.2.2.2.2.2.2.2.1
  have y4 := fun o => (ans_cells (HA4.out o)).2.2.2.2.2.2.2.2.2.2.1
  have y5 := fun o => (ans_cells (HA4.out o)).2.2.2.2.2.2.2.2.2.2.2
  have HF4 := Lib.hid hf4
  clear hf4
  go_wp2_with fail
  exact bodyPost_ret (results_cell_row rfl _ _ (w.heap.size + 1) _ _ (0, 0) _ rfl (set6_heap (HA4.out _) _ _ _ _ _ _) Try.underlying44 rfl (by kernel_rfl)) rfl
    (pdo_nil (a := ⟨0, false, 0, 0, 0, []⟩) (L' := L) ((does5 _ _ _ _).trans (by rw [pairAt_out (.inr (by have := H1.out; omega))]; rfl)) rfl (ppost_same6 HP.out ((hff.out.trans hf3.out).trans (HF4.out _)) (by omega) _ _ _ _ _ _))

set_option maxHeartbeats 2000000 in
theorem pdo_ceil_is (g c : Nat) (A : Option Addr) (most : Int) (L : List Pr) (k v : Int) (w : World) (hP : IsP w g A c most L) (hL : L.length ≤ 1073741824) (h1 : rk L k < L.length) (hi : isAt L k = true) :
    Calls Try.prog 14 #[.pointer (some ⟨g, 0, none⟩), .agg #[.int .i64 5, .int .u64 k, .int .u64 v]] w (PDoPost most L ⟨5, k, v⟩ g A w) := by
  have hrl := rk_le L k
  have hltg := hP.lt
  have hltA := Lib.hid hP.ltA
  have HP := Lib.hid hP
  have H1 := Lib.hid h1
  have hgz : decide ((rk L k : Int) ≥ 0) = true := decide_eq_true (by omega)
  go_enter Try.func14, Try.ntmps14
  go_wp2_with fail
  refine (prank_calls g c _ most L k _ (HP.out.fr (fr2 w _ _)) (by omega)).mono ?_
  rintro e w2 ⟨rfl, hw2⟩
  have ha := alloc2_snd w (.cells #[.int .i64 5, .int .u64 k, .int .u64 v] 33) (.cells #[.int .i64 0, .bool false, .int .u64 0, .int .u64 0, .int .i64 0, .slice none 0 0] 44)
  have ho := alloc2_fst w (.cells #[.int .i64 5, .int .u64 k, .int .u64 v] 33) (.cells #[.int .i64 0, .bool false, .int .u64 0, .int .u64 0, .int .i64 0, .slice none 0 0] 44)
  have hff := Lib.hid (fr2 w (.cells #[.int .i64 5, .int .u64 k, .int .u64 v] 33) (.cells #[.int .i64 0, .bool false, .int .u64 0, .int .u64 0, .int .i64 0, .slice none 0 0] 44))
  rw [← hw2] at ha ho hff
  clear hw2
  obtain ⟨o0, o1, o2⟩ := op_cells ho
  have HA := Lib.hid ha
  have HO := Lib.hid ho
  have hs2 : Hid (w.heap.size + 2 ≤ w2.heap.size) := (Array.getElem?_eq_some_iff.1 ha).1
  clear ha ho
  have HP2 := Lib.hid (HP.out.fr hff.out)
  have c1 := HP2.out.c1
  obtain ⟨gA, rfl, hc⟩ := HP2.out.cells (by omega)
  have HC := Lib.hid hc
  have hck := (hc _ h1).1
  have hz : (rk L k : Int) < (L.length : Int) := by omega
  obtain ⟨G, hG⟩ : ∃ G : Int, G = (L.getD (rk L k) (0, 0)).1 := ⟨_, rfl⟩
  rw [← hG] at hck
  have hgk : (G == k) = isAt L k := by
    unfold isAt
    have e : L[rk L k]? = some (L.getD (rk L k) (0, 0)) := by simp [h1]
    rw [e, hG]
  rw [hi] at hgk
  have HI := Lib.hid hi
  have HG := Lib.hid hG
  obtain ⟨V, hV⟩ : ∃ V : Int, V = (L.getD (rk L k) (0, 0)).2 := ⟨_, rfl⟩
  have HV := Lib.hid hV
  clear hc hG hi hP hV
  go_wp2_with fail
  go_quiet (fail)
  obtain ⟨w3, hw3⟩ : ∃ w3, w3 = w2.drewN nq := ⟨_, rfl⟩
  rw [← hw3]
  have hf3 : Hid (Fr w2 w3) := by rw [hw3]; exact fr_drewN _ _
  clear hw3
  have HA3 := Lib.hid (hf3.out.blk HA.out)
  obtain ⟨q0, q1, q2⟩ := op_cells (hf3.out.blk HO.out)
  have HP3 := Lib.hid (HP2.out.fr hf3.out)
  have d1 := HP3.out.c1
  have hs3 : Hid (w.heap.size + 2 ≤ w3.heap.size) := Nat.le_trans hs2.out hf3.out.size
  have hf4 : ∀ o, Fr w3 (w3.alloc o) := fun o => (Fr.refl w3).alloc o
  have q0a := fun o => (hf4 o).cell q0
  have q1a := fun o => (hf4 o).cell q1
  have q2a := fun o => (hf4 o).cell q2
  have d1a := fun o => (hf4 o).cell d1
  have hcv : ∀ o, (w3.alloc o).cell? ⟨gA, rk L k * 2 + 1, none⟩ = some (.int .u64 V) := fun o => by rw [HV.out]; exact (hf4 o).cell (hf3.out.cell (HC.out _ h1).2)
  have hckv : ∀ o, (w3.alloc o).cell? ⟨gA, rk L k * 2, none⟩ = some (.int .u64 G) := fun o => by rw [HG.out]; exact (hf4 o).cell (hf3.out.cell (HC.out _ h1).1)
  have HA4 : Hid (∀ o, (w3.alloc o).heap[w.heap.size + 1]? = _) := fun o => (hf4 o).blk HA3.out
  have z0 := fun o => (ans_cells (HA4.out o)).1
  have z1 := fun o => (ans_cells (HA4.out o)).2.1
  have z2 := fun o => (ans_cells (HA4.out o)).2.2.1
  have z3 := fun o => (ans_cells (HA4.out o)).2.2.2.1
  have z4 := fun o => (ans_cells (HA4.out o)).2.2.2.2.1
  have z5 := fun o => (ans_cells (HA4.out o)).2.2.2.2.2.1
  have y0 := fun o => (ans_cells (HA4.out o)).2.2.2.2.2.2.1
  have y1 := fun o => (ans_cells (HA4.out o)).2.2.2.2.2.2.2.1
  have y2 := fun o => (ans_cells (HA4.out o)).2.2.2.2.2.2.2.2.1
  have y3 := fun o => (ans_cells (HA4.out o)).2.2.2.2.2.2.2.2.2.1
  have y4 := fun o => (ans_cells (HA4.out o)).2.2.2.2.2.2.2.2.2.2.1
  have y5 := fun o => (ans_cells (HA4.out o)).2.2.2.2.2.2.2.2.2.2.2
  have HF4 := Lib.hid hf4
  clear hf4
  go_wp2_with fail
  exact bodyPost_ret (results_cell_row rfl _ _ (w.heap.size + 1) _ _ (0, 0) _ rfl (set6_heap (HA4.out _) _ _ _ _ _ _) Try.underlying44 rfl (by kernel_rfl)) rfl
    (pdo_nil (a := ⟨0, true, G, V, 0, []⟩) (L' := L) ((does5 _ _ _ _).trans (by rw [pairAt_in rfl (getD_some H1.out), HG.out, HV.out])) rfl (ppost_same6 HP.out ((hff.out.trans hf3.out).trans (HF4.out _)) (by omega) _ _ _ _ _ _))

set_option maxHeartbeats 2000000 in
theorem pdo_ceil_no (g c : Nat) (A : Option Addr) (most : Int) (L : List Pr) (k v : Int) (w : World) (hP : IsP w g A c most L) (hL : L.length ≤ 1073741824) (h1 : rk L k < L.length) (hi : isAt L k = false) :
    Calls Try.prog 14 #[.pointer (some ⟨g, 0, none⟩), .agg #[.int .i64 5, .int .u64 k, .int .u64 v]] w (PDoPost most L ⟨5, k, v⟩ g A w) := by
  have hrl := rk_le L k
  have hltg := hP.lt
  have hltA := Lib.hid hP.ltA
  have HP := Lib.hid hP
  have H1 := Lib.hid h1
  have hgz : decide ((rk L k : Int) ≥ 0) = true := decide_eq_true (by omega)
  go_enter Try.func14, Try.ntmps14
  go_wp2_with fail
  refine (prank_calls g c _ most L k _ (HP.out.fr (fr2 w _ _)) (by omega)).mono ?_
  rintro e w2 ⟨rfl, hw2⟩
  have ha := alloc2_snd w (.cells #[.int .i64 5, .int .u64 k, .int .u64 v] 33) (.cells #[.int .i64 0, .bool false, .int .u64 0, .int .u64 0, .int .i64 0, .slice none 0 0] 44)
  have ho := alloc2_fst w (.cells #[.int .i64 5, .int .u64 k, .int .u64 v] 33) (.cells #[.int .i64 0, .bool false, .int .u64 0, .int .u64 0, .int .i64 0, .slice none 0 0] 44)
  have hff := Lib.hid (fr2 w (.cells #[.int .i64 5, .int .u64 k, .int .u64 v] 33) (.cells #[.int .i64 0, .bool false, .int .u64 0, .int .u64 0, .int .i64 0, .slice none 0 0] 44))
  rw [← hw2] at ha ho hff
  clear hw2
  obtain ⟨o0, o1, o2⟩ := op_cells ho
  have HA := Lib.hid ha
  have HO := Lib.hid ho
  have hs2 : Hid (w.heap.size + 2 ≤ w2.heap.size) := (Array.getElem?_eq_some_iff.1 ha).1
  clear ha ho
  have HP2 := Lib.hid (HP.out.fr hff.out)
  have c1 := HP2.out.c1
  obtain ⟨gA, rfl, hc⟩ := HP2.out.cells (by omega)
  have HC := Lib.hid hc
  have hck := (hc _ h1).1
  have hz : (rk L k : Int) < (L.length : Int) := by omega
  obtain ⟨G, hG⟩ : ∃ G : Int, G = (L.getD (rk L k) (0, 0)).1 := ⟨_, rfl⟩
  rw [← hG] at hck
  have hgk : (G == k) = isAt L k := by
    unfold isAt
    have e : L[rk L k]? = some (L.getD (rk L k) (0, 0)) := by simp [h1]
    rw [e, hG]
  rw [hi] at hgk
  have HI := Lib.hid hi
  have HG := Lib.hid hG
  obtain ⟨V, hV⟩ : ∃ V : Int, V = (L.getD (rk L k) (0, 0)).2 := ⟨_, rfl⟩
  have HV := Lib.hid hV
  clear hc hG hi hP hV
  go_wp2_with fail
  go_quiet (fail)
  obtain ⟨w3, hw3⟩ : ∃ w3, w3 = w2.drewN nq := ⟨_, rfl⟩
  rw [← hw3]
  have hf3 : Hid (Fr w2 w3) := by rw [hw3]; exact fr_drewN _ _
  clear hw3
  have HA3 := Lib.hid (hf3.out.blk HA.out)
  obtain ⟨q0, q1, q2⟩ := op_cells (hf3.out.blk HO.out)
  have HP3 := Lib.hid (HP2.out.fr hf3.out)
  have d1 := HP3.out.c1
  have hs3 : Hid (w.heap.size + 2 ≤ w3.heap.size) := Nat.le_trans hs2.out hf3.out.size
  have hf4 : ∀ o, Fr w3 (w3.alloc o) := fun o => (Fr.refl w3).alloc o
  have q0a := fun o => (hf4 o).cell q0
  have q1a := fun o => (hf4 o).cell q1
  have q2a := fun o => (hf4 o).cell q2
  have d1a := fun o => (hf4 o).cell d1
  have hcv : ∀ o, (w3.alloc o).cell? ⟨gA, rk L k * 2 + 1, none⟩ = some (.int .u64 V) := fun o => by rw [HV.out]; exact (hf4 o).cell (hf3.out.cell (HC.out _ h1).2)
  have hckv : ∀ o, (w3.alloc o).cell? ⟨gA, rk L k * 2, none⟩ = some (.int .u64 G) := fun o => by rw [HG.out]; exact (hf4 o).cell (hf3.out.cell (HC.out _ h1).1)
  have HA4 : Hid (∀ o, (w3.alloc o).heap[w.heap.size + 1]? = _) := fun o => (hf4 o).blk HA3.out
  have z0 := fun o => (ans_cells (HA4.out o)).1
  have z1 := fun o => (ans_cells (HA4.out o)).2.1
  have z2 := fun o => (ans_cells (HA4.out o)).2.2.1
  have z3 := fun o => (ans_cells (HA4.out o)).2.2.2.1
  have z4 := fun o => (ans_cells (HA4.out o)).2.2.2.2.1
  have z5 := fun o => (ans_cells (HA4.out o)).2.2.2.2.2.1
  have y0 := fun o => (ans_cells (HA4.out o)).2.2.2.2.2.2.1
  have y1 := fun o => (ans_cells (HA4.out o)).2.2.2.2.2.2.2.1
  have y2 := fun o => (ans_cells (HA4.out o)).2.2.2.2.2.2.2.2.1
  have y3 := fun o => (ans_cells (HA4.out o)).2.2.2.2.2.2.2.2.2.1
  have y4 := fun o => (ans_cells (HA4.out o)).2.2.2.2.2.2.2.2.2.2.1
  have y5 := fun o => (ans_cells (HA4.out o)).2.2.2.2.2.2.2.2.2.2.2
  have HF4 := Lib.hid hf4
  clear hf4
  go_wp2_with fail
  exact bodyPost_ret (results_cell_row rfl _ _ (w.heap.size + 1) _ _ (0, 0) _ rfl (set6_heap (HA4.out _) _ _ _ _ _ _) Try.underlying44 rfl (by kernel_rfl)) rfl
    (pdo_nil (a := ⟨0, true, G, V, 0, []⟩) (L' := L) ((does5 _ _ _ _).trans (by rw [pairAt_in rfl (getD_some H1.out), HG.out, HV.out])) rfl (ppost_same6 HP.out ((hff.out.trans hf3.out).trans (HF4.out _)) (by omega) _ _ _ _ _ _))

set_option maxHeartbeats 2000000 in
theorem pdo_floor_is (g c : Nat) (A : Option Addr) (most : Int) (L : List Pr) (k v : Int) (w : World) (hP : IsP w g A c most L) (hL : L.length ≤ 1073741824) (h1 : rk L k < L.length) (hi : isAt L k = true) :
    Calls Try.prog 14 #[.pointer (some ⟨g, 0, none⟩), .agg #[.int .i64 4, .int .u64 k, .int .u64 v]] w (PDoPost most L ⟨4, k, v⟩ g A w) := by
  have hrl := rk_le L k
  have hltg := hP.lt
  have hltA := Lib.hid hP.ltA
  have HP := Lib.hid hP
  have H1 := Lib.hid h1
  have hgz : decide ((rk L k : Int) ≥ 0) = true := decide_eq_true (by omega)
  go_enter Try.func14, Try.ntmps14
  go_wp2_with fail
  refine (prank_calls g c _ most L k _ (HP.out.fr (fr2 w _ _)) (by omega)).mono ?_
  rintro e w2 ⟨rfl, hw2⟩
  have ha := alloc2_snd w (.cells #[.int .i64 4, .int .u64 k, .int .u64 v] 33) (.cells #[.int .i64 0, .bool false, .int .u64 0, .int .u64 0, .int .i64 0, .slice none 0 0] 44)
  have ho := alloc2_fst w (.cells #[.int .i64 4, .int .u64 k, .int .u64 v] 33) (.cells #[.int .i64 0, .bool false, .int .u64 0, .int .u64 0, .int .i64 0, .slice none 0 0] 44)
  have hff := Lib.hid (fr2 w (.cells #[.int .i64 4, .int .u64 k, .int .u64 v] 33) (.cells #[.int .i64 0, .bool false, .int .u64 0, .int .u64 0, .int .i64 0, .slice none 0 0] 44))
  rw [← hw2] at ha ho hff
  clear hw2
  obtain ⟨o0, o1, o2⟩ := op_cells ho
  have HA := Lib.hid ha
  have HO := Lib.hid ho
  have hs2 : Hid (w.heap.size + 2 ≤ w2.heap.size) := (Array.getElem?_eq_some_iff.1 ha).1
  clear ha ho
  have HP2 := Lib.hid (HP.out.fr hff.out)
  have c1 := HP2.out.c1
  obtain ⟨gA, rfl, hc⟩ := HP2.out.cells (by omega)
  have HC := Lib.hid hc
  have hck := (hc _ h1).1
  have hz : (rk L k : Int) < (L.length : Int) := by omega
  obtain ⟨G, hG⟩ : ∃ G : Int, G = (L.getD (rk L k) (0, 0)).1 := ⟨_, rfl⟩
  rw [← hG] at hck
  have hgk : (G == k) = isAt L k := by
    unfold isAt
    have e : L[rk L k]? = some (L.getD (rk L k) (0, 0)) := by simp [h1]
    rw [e, hG]
  rw [hi] at hgk
  have HI := Lib.hid hi
  have HG := Lib.hid hG
  obtain ⟨V, hV⟩ : ∃ V : Int, V = (L.getD (rk L k) (0, 0)).2 := ⟨_, rfl⟩
  have HV := Lib.hid hV
  clear hc hG hi hP hV
  go_wp2_with fail
  go_quiet (fail)
  obtain ⟨w3, hw3⟩ : ∃ w3, w3 = w2.drewN nq := ⟨_, rfl⟩
  rw [← hw3]
  have hf3 : Hid (Fr w2 w3) := by rw [hw3]; exact fr_drewN _ _
  clear hw3
  have HA3 := Lib.hid (hf3.out.blk HA.out)
  obtain ⟨q0, q1, q2⟩ := op_cells (hf3.out.blk HO.out)
  have HP3 := Lib.hid (HP2.out.fr hf3.out)
  have d1 := HP3.out.c1
  have hs3 : Hid (w.heap.size + 2 ≤ w3.heap.size) := Nat.le_trans hs2.out hf3.out.size
  have hf4 : ∀ o, Fr w3 (w3.alloc o) := fun o => (Fr.refl w3).alloc o
  have q0a := fun o => (hf4 o).cell q0
  have q1a := fun o => (hf4 o).cell q1
  have q2a := fun o => (hf4 o).cell q2
  have d1a := fun o => (hf4 o).cell d1
  have hcv : ∀ o, (w3.alloc o).cell? ⟨gA, rk L k * 2 + 1, none⟩ = some (.int .u64 V) := fun o => by rw [HV.out]; exact (hf4 o).cell (hf3.out.cell (HC.out _ h1).2)
  have hckv : ∀ o, (w3.alloc o).cell? ⟨gA, rk L k * 2, none⟩ = some (.int .u64 G) := fun o => by rw [HG.out]; exact (hf4 o).cell (hf3.out.cell (HC.out _ h1).1)
  have HA4 : Hid (∀ o, (w3.alloc o).heap[w.heap.size + 1]? = _) := fun o => (hf4 o).blk HA3.out
  have z0 := fun o => (ans_cells (HA4.out o)).1
  have z1 := fun o => (ans_cells (HA4.out o)).2.1
  have z2 := fun o => (ans_cells (HA4.out o)).2.2.1
  have z3 := fun o => (ans_cells (HA4.out o)).2.2.2.1
  have z4 := fun o => (ans_cells (HA4.out o)).2.2.2.2.1
  have z5 := fun o => (ans_cells (HA4.out o)).2.2.2.2.2.1
  have y0 := fun o => (ans_cells (HA4.out o)).2.2.2.2.2.2.1
  have y1 := fun o => (ans_cells (HA4.out o)).2.2.2.2.2.2.2.1
  have y2 := fun o => (ans_cells (HA4.out o)).2.2.2.2.2.2.2.2.1
  have y3 := fun o => (ans_cells (HA4.out o)).2.2.2.2.2.2.2.2.2.1
  have y4 := fun o => (ans_cells (HA4.out o)).2.2.2.2.2.2.2.2.2.2.1
  have y5 := fun o => (ans_cells (HA4.out o)).2.2.2.2.2.2.2.2.2.2.2
  have HF4 := Lib.hid hf4
  clear hf4
  go_wp2_with fail
  exact bodyPost_ret (results_cell_row rfl _ _ (w.heap.size + 1) _ _ (0, 0) _ rfl (set6_heap (HA4.out _) _ _ _ _ _ _) Try.underlying44 rfl (by kernel_rfl)) rfl
    (pdo_nil (a := ⟨0, true, G, V, 0, []⟩) (L' := L) ((does4 _ _ _ _).trans (by rw [HI.out, if_pos rfl, pairAt_in rfl (getD_some H1.out), HG.out, HV.out])) rfl (ppost_same6 HP.out ((hff.out.trans hf3.out).trans (HF4.out _)) (by omega) _ _ _ _ _ _))

set_option maxHeartbeats 2000000 in
theorem pdo_floor0_out (g c : Nat) (A : Option Addr) (most : Int) (L : List Pr) (k v : Int) (w : World) (hP : IsP w g A c most L) (hL : L.length ≤ 1073741824) (h1 : L.length ≤ rk L k) (h0 : rk L k = 0) :
    Calls Try.prog 14 #[.pointer (some ⟨g, 0, none⟩), .agg #[.int .i64 4, .int .u64 k, .int .u64 v]] w (PDoPost most L ⟨4, k, v⟩ g A w) := by
  have hrl := rk_le L k
  have hltg := hP.lt
  have hltA := Lib.hid hP.ltA
  have HP := Lib.hid hP
  have H0 := Lib.hid h0
  have hgz : decide ((rk L k : Int) - 1 ≥ 0) = false := decide_eq_false (by omega)
  have hgz2 : decide (0 ≤ (rk L k : Int) - 1) = false := decide_eq_false (by omega)
  have hgz3 : decide (1 ≤ rk L k) = false := decide_eq_false (by omega)
  have hgz4 : decide (0 < rk L k) = false := decide_eq_false (by omega)
  have hgz5 : decide ((1 : Int) ≤ rk L k) = false := decide_eq_false (by omega)
  clear h0
  go_enter Try.func14, Try.ntmps14
  go_wp2_with fail
  refine (prank_calls g c _ most L k _ (HP.out.fr (fr2 w _ _)) (by omega)).mono ?_
  rintro e w2 ⟨rfl, hw2⟩
  have ha := alloc2_snd w (.cells #[.int .i64 4, .int .u64 k, .int .u64 v] 33) (.cells #[.int .i64 0, .bool false, .int .u64 0, .int .u64 0, .int .i64 0, .slice none 0 0] 44)
  have ho := alloc2_fst w (.cells #[.int .i64 4, .int .u64 k, .int .u64 v] 33) (.cells #[.int .i64 0, .bool false, .int .u64 0, .int .u64 0, .int .i64 0, .slice none 0 0] 44)
  have hff := Lib.hid (fr2 w (.cells #[.int .i64 4, .int .u64 k, .int .u64 v] 33) (.cells #[.int .i64 0, .bool false, .int .u64 0, .int .u64 0, .int .i64 0, .slice none 0 0] 44))
  rw [← hw2] at ha ho hff
  clear hw2
  obtain ⟨o0, o1, o2⟩ := op_cells ho
  have HA := Lib.hid ha
  have HO := Lib.hid ho
  have hs2 : Hid (w.heap.size + 2 ≤ w2.heap.size) := (Array.getElem?_eq_some_iff.1 ha).1
  clear ha ho
  have HP2 := Lib.hid (HP.out.fr hff.out)
  have c1 := HP2.out.c1
  have hz : decide (rk L k < L.length) = false := decide_eq_false (by omega)
  have hi : isAt L k = false := by
    unfold isAt
    rw [List.getElem?_eq_none h1]
  have HI := Lib.hid hi
  clear h1 hi hP
  go_wp2_with fail
  go_quiet (fail)
  obtain ⟨w3, hw3⟩ : ∃ w3, w3 = w2.drewN nq := ⟨_, rfl⟩
  rw [← hw3]
  have hf3 : Hid (Fr w2 w3) := by rw [hw3]; exact fr_drewN _ _
  clear hw3
  have HA3 := Lib.hid (hf3.out.blk HA.out)
  obtain ⟨q0, q1, q2⟩ := op_cells (hf3.out.blk HO.out)
  have HP3 := Lib.hid (HP2.out.fr hf3.out)
  have d1 := HP3.out.c1
  have hs3 : Hid (w.heap.size + 2 ≤ w3.heap.size) := Nat.le_trans hs2.out hf3.out.size
  have hf4 : ∀ o, Fr w3 (w3.alloc o) := fun o => (Fr.refl w3).alloc o
  have q0a := fun o => (hf4 o).cell q0
  have q1a := fun o => (hf4 o).cell q1
  have q2a := fun o => (hf4 o).cell q2
  have d1a := fun o => (hf4 o).cell d1
  have HA4 : Hid (∀ o, (w3.alloc o).heap[w.heap.size + 1]? = _) := fun o => (hf4 o).blk HA3.out
  have z0 := fun o => (ans_cells (HA4.out o)).1
  have z1 := fun o => (ans_cells (HA4.out o)).2.1
  have z2 := fun o => (ans_cells (HA4.out o)).2.2.1
  have z3 := fun o => (ans_cells (HA4.out o)).2.2.2.1
  have z4 := fun o => (ans_cells (HA4.out o)).2.2.2.2.1
  have z5 := fun o => (ans_cells (HA4.out o)).2.2.2.2.2.1
  have y0 := fun o => (ans_cells (HA4.out o)).2.2.2.2.2.2.1
  have y1 := fun o => (ans_cells (HA4.out o)).2.2.2.2.2.2.2.1
  have y2 := fun o => (ans_cells (HA4.out o)).2.2.2.2.2.2.2.2.1
  have y3 := fun o => (ans_cells (HA4.out o)).2.2.2.2.2.2.2.2.2.1
  have y4 := fun o => (ans_cells (HA4.out o)).2.2.2.2.2.2.2.2.2.2.1
  have y5 := fun o => (ans_cells (HA4.out o)).2.2.2.2.2.2.2.2.2.2.2
  have HF4 := Lib.hid hf4
  clear hf4
  go_wp2_with fail
  exact bodyPost_ret (results_cell_row rfl _ _ (w.heap.size + 1) _ _ (0, 0) _ rfl (set6_heap (HA4.out _) _ _ _ _ _ _) Try.underlying44 rfl (by kernel_rfl)) rfl
    (pdo_nil (a := ⟨0, false, 0, 0, 0, []⟩) (L' := L) ((does4 _ _ _ _).trans (by rw [HI.out, if_neg (by simp), pairAt_out (.inl (by have := H0.out; omega))]; rfl)) rfl (ppost_same6 HP.out ((hff.out.trans hf3.out).trans (HF4.out _)) (by omega) _ _ _ _ _ _))

set_option maxHeartbeats 2000000 in
theorem pdo_floor0_no (g c : Nat) (A : Option Addr) (most : Int) (L : List Pr) (k v : Int) (w : World) (hP : IsP w g A c most L) (hL : L.length ≤ 1073741824) (h1 : rk L k < L.length) (hi : isAt L k = false) (h0 : rk L k = 0) :
    Calls Try.prog 14 #[.pointer (some ⟨g, 0, none⟩), .agg #[.int .i64 4, .int .u64 k, .int .u64 v]] w (PDoPost most L ⟨4, k, v⟩ g A w) := by
  have hrl := rk_le L k
  have hltg := hP.lt
  have hltA := Lib.hid hP.ltA
  have HP := Lib.hid hP
  have H0 := Lib.hid h0
  have hgz : decide ((rk L k : Int) - 1 ≥ 0) = false := decide_eq_false (by omega)
  have hgz2 : decide (0 ≤ (rk L k : Int) - 1) = false := decide_eq_false (by omega)
  have hgz3 : decide (1 ≤ rk L k) = false := decide_eq_false (by omega)
  have hgz4 : decide (0 < rk L k) = false := decide_eq_false (by omega)
  have hgz5 : decide ((1 : Int) ≤ rk L k) = false := decide_eq_false (by omega)
  clear h0
  go_enter Try.func14, Try.ntmps14
  go_wp2_with fail
  refine (prank_calls g c _ most L k _ (HP.out.fr (fr2 w _ _)) (by omega)).mono ?_
  rintro e w2 ⟨rfl, hw2⟩
  have ha := alloc2_snd w (.cells #[.int .i64 4, .int .u64 k, .int .u64 v] 33) (.cells #[.int .i64 0, .bool false, .int .u64 0, .int .u64 0, .int .i64 0, .slice none 0 0] 44)
  have ho := alloc2_fst w (.cells #[.int .i64 4, .int .u64 k, .int .u64 v] 33) (.cells #[.int .i64 0, .bool false, .int .u64 0, .int .u64 0, .int .i64 0, .slice none 0 0] 44)
  have hff := Lib.hid (fr2 w (.cells #[.int .i64 4, .int .u64 k, .int .u64 v] 33) (.cells #[.int .i64 0, .bool false, .int .u64 0, .int .u64 0, .int .i64 0, .slice none 0 0] 44))
  rw [← hw2] at ha ho hff
  clear hw2
  obtain ⟨o0, o1, o2⟩ := op_cells ho
  have HA := Lib.hid ha
  have HO := Lib.hid ho
  have hs2 : Hid (w.heap.size + 2 ≤ w2.heap.size) := (Array.getElem?_eq_some_iff.1 ha).1
  clear ha ho
  have HP2 := Lib.hid (HP.out.fr hff.out)
  have c1 := HP2.out.c1
  obtain ⟨gA, rfl, hc⟩ := HP2.out.cells (by omega)
  have HC := Lib.hid hc
  have hck := (hc _ h1).1
  have hz : (rk L k : Int) < (L.length : Int) := by omega
  obtain ⟨G, hG⟩ : ∃ G : Int, G = (L.getD (rk L k) (0, 0)).1 := ⟨_, rfl⟩
  rw [← hG] at hck
  have hgk : (G == k) = isAt L k := by
    unfold isAt
    have e : L[rk L k]? = some (L.getD (rk L k) (0, 0)) := by simp [h1]
    rw [e, hG]
  rw [hi] at hgk
  have HI := Lib.hid hi
  have HG := Lib.hid hG
  obtain ⟨V, hV⟩ : ∃ V : Int, V = (L.getD (rk L k) (0, 0)).2 := ⟨_, rfl⟩
  have HV := Lib.hid hV
  clear hc hG hi hP hV
  go_wp2_with fail
  go_quiet (fail)
  obtain ⟨w3, hw3⟩ : ∃ w3, w3 = w2.drewN nq := ⟨_, rfl⟩
  rw [← hw3]
  have hf3 : Hid (Fr w2 w3) := by rw [hw3]; exact fr_drewN _ _
  clear hw3
  have HA3 := Lib.hid (hf3.out.blk HA.out)
  obtain ⟨q0, q1, q2⟩ := op_cells (hf3.out.blk HO.out)
  have HP3 := Lib.hid (HP2.out.fr hf3.out)
  have d1 := HP3.out.c1
  have hs3 : Hid (w.heap.size + 2 ≤ w3.heap.size) := Nat.le_trans hs2.out hf3.out.size
  have hf4 : ∀ o, Fr w3 (w3.alloc o) := fun o => (Fr.refl w3).alloc o
  have q0a := fun o => (hf4 o).cell q0
  have q1a := fun o => (hf4 o).cell q1
  have q2a := fun o => (hf4 o).cell q2
  have d1a := fun o => (hf4 o).cell d1
  have hcv : ∀ o, (w3.alloc o).cell? ⟨gA, rk L k * 2 + 1, none⟩ = some (.int .u64 V) := fun o => by rw [HV.out]; exact (hf4 o).cell (hf3.out.cell (HC.out _ h1).2)
  have hckv : ∀ o, (w3.alloc o).cell? ⟨gA, rk L k * 2, none⟩ = some (.int .u64 G) := fun o => by rw [HG.out]; exact (hf4 o).cell (hf3.out.cell (HC.out _ h1).1)
  have HA4 : Hid (∀ o, (w3.alloc o).heap[w.heap.size + 1]? = _) := fun o => (hf4 o).blk HA3.out
  have z0 := fun o => (ans_cells (HA4.out o)).1
  have z1 := fun o => (ans_cells (HA4.out o)).2.1
  have z2 := fun o => (ans_cells (HA4.out o)).2.2.1
  have z3 := fun o => (ans_cells (HA4.out o)).2.2.2.1
  have z4 := fun o => (ans_cells (HA4.out o)).2.2.2.2.1
  have z5 := fun o => (ans_cells (HA4.out o)).2.2.2.2.2.1
  have y0 := fun o => (ans_cells (HA4.out o)).2.2.2.2.2.2.1
  have y1 := fun o => (ans_cells (HA4.out o)).2.2.2.2.2.2.2.1
  have y2 := fun o => (ans_cells (HA4.out o)).2.2.2.2.2.2.2.2.1
  have y3 := fun o => (ans_cells (HA4.out o)).2.2.2.2.2.2.2.2.2.1
  have y4 := fun o => (ans_cells (HA4.out o)).2.2.2.2.2.2.2.2.2.2.1
  have y5 := fun o => (ans_cells (HA4.out o)).2.2.2.2.2.2.2.2.2.2.2
  have HF4 := Lib.hid hf4
  clear hf4
  go_wp2_with fail
  exact bodyPost_ret (results_cell_row rfl _ _ (w.heap.size + 1) _ _ (0, 0) _ rfl (set6_heap (HA4.out _) _ _ _ _ _ _) Try.underlying44 rfl (by kernel_rfl)) rfl
    (pdo_nil (a := ⟨0, false, 0, 0, 0, []⟩) (L' := L) ((does4 _ _ _ _).trans (by rw [HI.out, if_neg (by simp), pairAt_out (.inl (by have := H0.out; omega))]; rfl)) rfl (ppost_same6 HP.out ((hff.out.trans hf3.out).trans (HF4.out _)) (by omega) _ _ _ _ _ _))

set_option maxHeartbeats 2000000 in
theorem pdo_floor_out (g c : Nat) (A : Option Addr) (most : Int) (L : List Pr) (k v : Int) (w : World) (hP : IsP w g A c most L) (hL : L.length ≤ 1073741824) (h1 : L.length ≤ rk L k) (h0 : 0 < rk L k) :
    Calls Try.prog 14 #[.pointer (some ⟨g, 0, none⟩), .agg #[.int .i64 4, .int .u64 k, .int .u64 v]] w (PDoPost most L ⟨4, k, v⟩ g A w) := by
  have hrl := rk_le L k
  have hltg := hP.lt
  have hltA := Lib.hid hP.ltA
  have HP := Lib.hid hP
  obtain ⟨m, hm⟩ : ∃ m : Nat, (rk L k : Int) - 1 = (m : Int) := ⟨rk L k - 1, by omega⟩
  have hml : m < L.length := by omega
  have hmz : (m : Int) < (L.length : Int) := by omega
  have HM := Lib.hid hm
  have HML := Lib.hid hml
  go_enter Try.func14, Try.ntmps14
  go_wp2_with fail
  refine (prank_calls g c _ most L k _ (HP.out.fr (fr2 w _ _)) (by omega)).mono ?_
  rintro e w2 ⟨rfl, hw2⟩
  have ha := alloc2_snd w (.cells #[.int .i64 4, .int .u64 k, .int .u64 v] 33) (.cells #[.int .i64 0, .bool false, .int .u64 0, .int .u64 0, .int .i64 0, .slice none 0 0] 44)
  have ho := alloc2_fst w (.cells #[.int .i64 4, .int .u64 k, .int .u64 v] 33) (.cells #[.int .i64 0, .bool false, .int .u64 0, .int .u64 0, .int .i64 0, .slice none 0 0] 44)
  have hff := Lib.hid (fr2 w (.cells #[.int .i64 4, .int .u64 k, .int .u64 v] 33) (.cells #[.int .i64 0, .bool false, .int .u64 0, .int .u64 0, .int .i64 0, .slice none 0 0] 44))
  rw [← hw2] at ha ho hff
  clear hw2
  obtain ⟨o0, o1, o2⟩ := op_cells ho
  have HA := Lib.hid ha
  have HO := Lib.hid ho
  have hs2 : Hid (w.heap.size + 2 ≤ w2.heap.size) := (Array.getElem?_eq_some_iff.1 ha).1
  clear ha ho
  have HP2 := Lib.hid (HP.out.fr hff.out)
  have c1 := HP2.out.c1
  have hz : decide (rk L k < L.length) = false := decide_eq_false (by omega)
  have hi : isAt L k = false := by
    unfold isAt
    rw [List.getElem?_eq_none h1]
  have HI := Lib.hid hi
  clear h1 hi hP
  obtain ⟨gA, rfl, hc⟩ := HP2.out.cells (by omega)
  have HC := Lib.hid hc
  clear hc
  go_wp2_with fail
  go_quiet (fail)
  obtain ⟨w3, hw3⟩ : ∃ w3, w3 = w2.drewN nq := ⟨_, rfl⟩
  rw [← hw3]
  have hf3 : Hid (Fr w2 w3) := by rw [hw3]; exact fr_drewN _ _
  clear hw3
  have HA3 := Lib.hid (hf3.out.blk HA.out)
  obtain ⟨q0, q1, q2⟩ := op_cells (hf3.out.blk HO.out)
  have HP3 := Lib.hid (HP2.out.fr hf3.out)
  have d1 := HP3.out.c1
  have hs3 : Hid (w.heap.size + 2 ≤ w3.heap.size) := Nat.le_trans hs2.out hf3.out.size
  have hf4 : ∀ o, Fr w3 (w3.alloc o) := fun o => (Fr.refl w3).alloc o
  have q0a := fun o => (hf4 o).cell q0
  have q1a := fun o => (hf4 o).cell q1
  have q2a := fun o => (hf4 o).cell q2
  have d1a := fun o => (hf4 o).cell d1
  obtain ⟨Gm, hGm⟩ : ∃ G : Int, G = (L.getD m (0, 0)).1 := ⟨_, rfl⟩
  have HGm := Lib.hid hGm
  obtain ⟨Vm, hVm⟩ : ∃ V : Int, V = (L.getD m (0, 0)).2 := ⟨_, rfl⟩
  have HVm := Lib.hid hVm
  clear hGm hVm
  have hmv : ∀ o, (w3.alloc o).cell? ⟨gA, m * 2 + 1, none⟩ = some (.int .u64 Vm) := fun o => by rw [HVm.out]; exact (hf4 o).cell (hf3.out.cell (HC.out _ hml).2)
  have hmk : ∀ o, (w3.alloc o).cell? ⟨gA, m * 2, none⟩ = some (.int .u64 Gm) := fun o => by rw [HGm.out]; exact (hf4 o).cell (hf3.out.cell (HC.out _ hml).1)
  have HA4 : Hid (∀ o, (w3.alloc o).heap[w.heap.size + 1]? = _) := fun o => (hf4 o).blk HA3.out
  have z0 := fun o => (ans_cells (HA4.out o)).1
  have z1 := fun o => (ans_cells (HA4.out o)).2.1
  have z2 := fun o => (ans_cells (HA4.out o)).2.2.1
  have z3 := fun o => (ans_cells (HA4.out o)).2.2.2.1
  have z4 := fun o => (ans_cells (HA4.out o)).2.2.2.2.1
  have z5 := fun o => (ans_cells (HA4.out o)).2.2.2.2.2.1
  have y0 := fun o => (ans_cells (HA4.out o)).2.2.2.2.2.2.1
  have y1 := fun o => (ans_cells (HA4.out o)).2.2.2.2.2.2.2.1
  have y2 := fun o => (ans_cells (HA4.out o)).2.2.2.2.2.2.2.2.1
  have y3 := fun o => (ans_cells (HA4.out o)).2.2.2.2.2.2.2.2.2.1
  have y4 := fun o => (ans_cells (HA4.out o)).2.2.2.2.2.2.2.2.2.2.1
  have y5 := fun o => (ans_cells (HA4.out o)).2.2.2.2.2.2.2.2.2.2.2
  have HF4 := Lib.hid hf4
  clear hf4
  go_wp2_with fail
  exact bodyPost_ret (results_cell_row rfl _ _ (w.heap.size + 1) _ _ (0, 0) _ rfl (set6_heap (HA4.out _) _ _ _ _ _ _) Try.underlying44 rfl (by kernel_rfl)) rfl
    (pdo_nil (a := ⟨0, true, Gm, Vm, 0, []⟩) (L' := L) ((does4 _ _ _ _).trans (by rw [HI.out, if_neg (by simp), pairAt_in HM.out (getD_some HML.out), HGm.out, HVm.out])) rfl (ppost_same6 HP.out ((hff.out.trans hf3.out).trans (HF4.out _)) (by omega) _ _ _ _ _ _))

set_option maxHeartbeats 2000000 in
theorem pdo_floor_no (g c : Nat) (A : Option Addr) (most : Int) (L : List Pr) (k v : Int) (w : World) (hP : IsP w g A c most L) (hL : L.length ≤ 1073741824) (h1 : rk L k < L.length) (hi : isAt L k = false) (h0 : 0 < rk L k) :
    Calls Try.prog 14 #[.pointer (some ⟨g, 0, none⟩), .agg #[.int .i64 4, .int .u64 k, .int .u64 v]] w (PDoPost most L ⟨4, k, v⟩ g A w) := by
  have hrl := rk_le L k
  have hltg := hP.lt
  have hltA := Lib.hid hP.ltA
  have HP := Lib.hid hP
  obtain ⟨m, hm⟩ : ∃ m : Nat, (rk L k : Int) - 1 = (m : Int) := ⟨rk L k - 1, by omega⟩
  have hml : m < L.length := by omega
  have hmz : (m : Int) < (L.length : Int) := by omega
  have HM := Lib.hid hm
  have HML := Lib.hid hml
  go_enter Try.func14, Try.ntmps14
  go_wp2_with fail
  refine (prank_calls g c _ most L k _ (HP.out.fr (fr2 w _ _)) (by omega)).mono ?_
  rintro e w2 ⟨rfl, hw2⟩
  have ha := alloc2_snd w (.cells #[.int .i64 4, .int .u64 k, .int .u64 v] 33) (.cells #[.int .i64 0, .bool false, .int .u64 0, .int .u64 0, .int .i64 0, .slice none 0 0] 44)
  have ho := alloc2_fst w (.cells #[.int .i64 4, .int .u64 k, .int .u64 v] 33) (.cells #[.int .i64 0, .bool false, .int .u64 0, .int .u64 0, .int .i64 0, .slice none 0 0] 44)
  have hff := Lib.hid (fr2 w (.cells #[.int .i64 4, .int .u64 k, .int .u64 v] 33) (.cells #[.int .i64 0, .bool false, .int .u64 0, .int .u64 0, .int .i64 0, .slice none 0 0] 44))
  rw [← hw2] at ha ho hff
  clear hw2
  obtain ⟨o0, o1, o2⟩ := op_cells ho
  have HA := Lib.hid ha
  have HO := Lib.hid ho
  have hs2 : Hid (w.heap.size + 2 ≤ w2.heap.size) := (Array.getElem?_eq_some_iff.1 ha).1
  clear ha ho
  have HP2 := Lib.hid (HP.out.fr hff.out)
  have c1 := HP2.out.c1
  obtain ⟨gA, rfl, hc⟩ := HP2.out.cells (by omega)
  have HC := Lib.hid hc
  have hck := (hc _ h1).1
  have hz : (rk L k : Int) < (L.length : Int) := by omega
  obtain ⟨G, hG⟩ : ∃ G : Int, G = (L.getD (rk L k) (0, 0)).1 := ⟨_, rfl⟩
  rw [← hG] at hck
  have hgk : (G == k) = isAt L k := by
    unfold isAt
    have e : L[rk L k]? = some (L.getD (rk L k) (0, 0)) := by simp [h1]
    rw [e, hG]
  rw [hi] at hgk
  have HI := Lib.hid hi
  have HG := Lib.hid hG
  obtain ⟨V, hV⟩ : ∃ V : Int, V = (L.getD (rk L k) (0, 0)).2 := ⟨_, rfl⟩
  have HV := Lib.hid hV
  clear hc hG hi hP hV
  go_wp2_with fail
  go_quiet (fail)
  obtain ⟨w3, hw3⟩ : ∃ w3, w3 = w2.drewN nq := ⟨_, rfl⟩
  rw [← hw3]
  have hf3 : Hid (Fr w2 w3) := by rw [hw3]; exact fr_drewN _ _
  clear hw3
  have HA3 := Lib.hid (hf3.out.blk HA.out)
  obtain ⟨q0, q1, q2⟩ := op_cells (hf3.out.blk HO.out)
  have HP3 := Lib.hid (HP2.out.fr hf3.out)
  have d1 := HP3.out.c1
  have hs3 : Hid (w.heap.size + 2 ≤ w3.heap.size) := Nat.le_trans hs2.out hf3.out.size
  have hf4 : ∀ o, Fr w3 (w3.alloc o) := fun o => (Fr.refl w3).alloc o
  have q0a := fun o => (hf4 o).cell q0
  have q1a := fun o => (hf4 o).cell q1
  have q2a := fun o => (hf4 o).cell q2
  have d1a := fun o => (hf4 o).cell d1
  have hcv : ∀ o, (w3.alloc o).cell? ⟨gA, rk L k * 2 + 1, none⟩ = some (.int .u64 V) := fun o => by rw [HV.out]; exact (hf4 o).cell (hf3.out.cell (HC.out _ h1).2)
  have hckv : ∀ o, (w3.alloc o).cell? ⟨gA, rk L k * 2, none⟩ = some (.int .u64 G) := fun o => by rw [HG.out]; exact (hf4 o).cell (hf3.out.cell (HC.out _ h1).1)
  obtain ⟨Gm, hGm⟩ : ∃ G : Int, G = (L.getD m (0, 0)).1 := ⟨_, rfl⟩
  have HGm := Lib.hid hGm
  obtain ⟨Vm, hVm⟩ : ∃ V : Int, V = (L.getD m (0, 0)).2 := ⟨_, rfl⟩
  have HVm := Lib.hid hVm
  clear hGm hVm
  have hmv : ∀ o, (w3.alloc o).cell? ⟨gA, m * 2 + 1, none⟩ = some (.int .u64 Vm) := fun o => by rw [HVm.out]; exact (hf4 o).cell (hf3.out.cell (HC.out _ hml).2)
  have hmk : ∀ o, (w3.alloc o).cell? ⟨gA, m * 2, none⟩ = some (.int .u64 Gm) := fun o => by rw [HGm.out]; exact (hf4 o).cell (hf3.out.cell (HC.out _ hml).1)
  have HA4 : Hid (∀ o, (w3.alloc o).heap[w.heap.size + 1]? = _) := fun o => (hf4 o).blk HA3.out
  have z0 := fun o => (ans_cells (HA4.out o)).1
  have z1 := fun o => (ans_cells (HA4.out o)).2.1
  have z2 := fun o => (ans_cells (HA4.out o)).2.2.1
  have z3 := fun o => (ans_cells (HA4.out o)).2.2.2.1
  have z4 := fun o => (ans_cells (HA4.out o)).2.2.2.2.1
  have z5 := fun o => (ans_cells (HA4.out o)).2.2.2.2.2.1
  have y0 := fun o => (ans_cells (HA4.out o)).2.2.2.2.2.2.1
  have y1 := fun o => (ans_cells (HA4.out o)).2.2.2.2.2.2.2.1
  have y2 := fun o => (ans_cells (HA4.out o)).2.2.2.2.2.2.2.2.1
  have y3 := fun o => (ans_cells (HA4.out o)).2.2.2.2.2.2.2.2.2.1
  have y4 := fun o => (ans_cells (HA4.out o)).2.2.2.2.2.2.2.2.2.2.1
  have y5 := fun o => (ans_cells (HA4.out o)).2.2.2.2.2.2.2.2.2.2.2
  have HF4 := Lib.hid hf4
  clear hf4
  go_wp2_with fail
  exact bodyPost_ret (results_cell_row rfl _ _ (w.heap.size + 1) _ _ (0, 0) _ rfl (set6_heap (HA4.out _) _ _ _ _ _ _) Try.underlying44 rfl (by kernel_rfl)) rfl
    (pdo_nil (a := ⟨0, true, Gm, Vm, 0, []⟩) (L' := L) ((does4 _ _ _ _).trans (by rw [HI.out, if_neg (by simp), pairAt_in HM.out (getD_some HML.out), HGm.out, HVm.out])) rfl (ppost_same6 HP.out ((hff.out.trans hf3.out).trans (HF4.out _)) (by omega) _ _ _ _ _ _))

end Go.Proofs.Ytjannhphmemenaa
