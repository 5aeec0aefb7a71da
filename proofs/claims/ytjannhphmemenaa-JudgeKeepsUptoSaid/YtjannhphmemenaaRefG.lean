/- The walks of the reference of layer 23: Do's delete. -/
import Derived.Test.YtjannhphmemenaaRefE
namespace Go.Proofs.Ytjannhphmemenaa
set_option maxRecDepth 100000
open Go.RowKit Go.Inc Go.Jud Go.Maps Go.Sort

theorem flat_take (L : List Pr) {n : Nat} (h : n ≤ L.length) : (L.flatMap pcells).take (n * 2) = (L.take n).flatMap pcells := by
  have e : L.flatMap pcells = (L.take n).flatMap pcells ++ (L.drop n).flatMap pcells := by rw [← List.flatMap_append, List.take_append_drop]
  have hl : ((L.take n).flatMap pcells).length = n * 2 := by rw [flat_len pcells 2 pcells_len, List.length_take]; omega
  rw [e, List.take_append_of_le_length (by omega), List.take_of_length_le (by omega)]
theorem flat_drop (L : List Pr) {n : Nat} (h : n ≤ L.length) : (L.flatMap pcells).drop (n * 2) = (L.drop n).flatMap pcells := by
  have e : L.flatMap pcells = (L.take n).flatMap pcells ++ (L.drop n).flatMap pcells := by rw [← List.flatMap_append, List.take_append_drop]
  have hl : ((L.take n).flatMap pcells).length = n * 2 := by rw [flat_len pcells 2 pcells_len, List.length_take]; omega
  rw [e, List.drop_append_of_le_length (by omega), List.drop_of_length_le (by omega), List.nil_append]
theorem does2_not {most : Int} {L : List Pr} {k v : Int} (hi : isAt L k = false) : does most L ⟨2, k, v⟩ = (⟨0, false, 0, 0, 0, []⟩, L) := by
  have e : does most L ⟨2, k, v⟩ = ({ ans0 with is := isAt L k }, delL L k) := rfl
  rw [e, hi]; unfold delL; rw [hi]; rfl
theorem does2_is {most : Int} {L : List Pr} {k v : Int} (hi : isAt L k = true) : does most L ⟨2, k, v⟩ = (⟨0, true, 0, 0, 0, []⟩, L.take (rk L k) ++ L.drop (rk L k + 1)) := by
  have e : does most L ⟨2, k, v⟩ = ({ ans0 with is := isAt L k }, delL L k) := rfl
  rw [e, hi]; unfold delL; rw [hi]; rfl

set_option maxHeartbeats 2000000 in
theorem pdo_del_out (g c : Nat) (A : Option Addr) (most : Int) (L : List Pr) (k v : Int) (w : World) (hP : IsP w g A c most L) (hL : L.length ≤ 1073741824) (h1 : L.length ≤ rk L k) :
    Calls Try.prog 14 #[.pointer (some ⟨g, 0, none⟩), .agg #[.int .i64 2, .int .u64 k, .int .u64 v]] w (PDoPost most L ⟨2, k, v⟩ g A w) := by
  have hrl := rk_le L k
  have hltg := hP.lt
  have hltA := Lib.hid hP.ltA
  have HP := Lib.hid hP
  go_enter Try.func14, Try.ntmps14
  go_wp2_with fail
  refine (prank_calls g c _ most L k _ (HP.out.fr (fr2 w _ _)) (by omega)).mono ?_
  rintro e w2 ⟨rfl, hw2⟩
  have ha := alloc2_snd w (.cells #[.int .i64 2, .int .u64 k, .int .u64 v] 33) (.cells #[.int .i64 0, .bool false, .int .u64 0, .int .u64 0, .int .i64 0, .slice none 0 0] 44)
  have ho := alloc2_fst w (.cells #[.int .i64 2, .int .u64 k, .int .u64 v] 33) (.cells #[.int .i64 0, .bool false, .int .u64 0, .int .u64 0, .int .i64 0, .slice none 0 0] 44)
  have hff := Lib.hid (fr2 w (.cells #[.int .i64 2, .int .u64 k, .int .u64 v] 33) (.cells #[.int .i64 0, .bool false, .int .u64 0, .int .u64 0, .int .i64 0, .slice none 0 0] 44))
  rw [← hw2] at ha ho hff
  clear hw2
  obtain ⟨o0, o1, o2⟩ := op_cells ho
  have HA := Lib.hid ha
  have HO := Lib.hid ho
  have hs2 : Hid (w.heap.size + 2 ≤ w2.heap.size) := (Array.getElem?_eq_some_iff.1 ha).1
  clear ha ho
  have HP2 := Lib.hid (HP.out.fr hff.out)
  have c1 := HP2.out.c1
  have hz : decide (rk L k < L.length) = false := decide_eq_false (by omega)
  have hi : isAt L k = false := by
    unfold isAt
    rw [List.getElem?_eq_none h1]
  have HI := Lib.hid hi
  clear h1 hi hP
  go_wp2_with fail
  go_quiet (fail)
  obtain ⟨w3, hw3⟩ : ∃ w3, w3 = w2.drewN nq := ⟨_, rfl⟩
  rw [← hw3]
  have hf3 : Hid (Fr w2 w3) := by rw [hw3]; exact fr_drewN _ _
  clear hw3
  have HA3 := Lib.hid (hf3.out.blk HA.out)
  obtain ⟨q0, q1, q2⟩ := op_cells (hf3.out.blk HO.out)
  have HP3 := Lib.hid (HP2.out.fr hf3.out)
  have d1 := HP3.out.c1
  have hs3 : Hid (w.heap.size + 2 ≤ w3.heap.size) := Nat.le_trans hs2.out hf3.out.size
  have hf4 : ∀ o, Fr w3 (w3.alloc o) := fun o => (Fr.refl w3).alloc o
  have q0a := fun o => (hf4 o).cell q0
  have q1a := fun o => (hf4 o).cell q1
  have q2a := fun o => (hf4 o).cell q2
  have d1a := fun o => (hf4 o).cell d1
  have HA4 : Hid (∀ o, (w3.alloc o).heap[w.heap.size + 1]? = _) := fun o => (hf4 o).blk HA3.out
  have z0 := fun o => (ans_cells (HA4.out o)).1
  have z1 := fun o => (ans_cells (HA4.out o)).2.1
  have z2 := fun o => (ans_cells (HA4.out o)).2.2.1
  have z3 := fun o => (ans_cells (HA4.out o)).2.2.2.1
  have z4 := fun o => (ans_cells (HA4.out o)).2.2.2.2.1
  have z5 := fun o => (ans_cells (HA4.out o)).2.2.2.2.2.1
  have y0 := fun o => (ans_cells (HA4.out o)).2.2.2.2.2.2.1
  have y1 := fun o => (ans_cells (HA4.out o)).2.2.2.2.2.2.2.1
  have y2 := fun o => (ans_cells (HA4.out o)).2.2.2.2.2.2.2.2.1
  have y3 := fun o => (ans_cells (HA4.out o)).2.2.2.2.2.2.2.2.2.1
  have y4 := fun o => (ans_cells (HA4.out o)).2.2.2.2.2.2.2.2.2.2.1
  have y5 := fun o => (ans_cells (HA4.out o)).2.2.2.2.2.2.2.2.2.2.2
  have HF4 := Lib.hid hf4
  clear hf4
  go_wp2_with fail
  exact bodyPost_ret (results_cell_row rfl _ _ (w.heap.size + 1) _ _ (0, 0) _ rfl (set6_heap (HA4.out _) _ _ _ _ _ _) Try.underlying44 rfl (by kernel_rfl)) rfl
    (pdo_nil (a := ⟨0, false, 0, 0, 0, []⟩) (L' := L) (does2_not HI.out) rfl (ppost_same6 HP.out ((hff.out.trans hf3.out).trans (HF4.out _)) (by omega) _ _ _ _ _ _))

set_option maxHeartbeats 2000000 in
theorem pdo_del_no (g c : Nat) (A : Option Addr) (most : Int) (L : List Pr) (k v : Int) (w : World) (hP : IsP w g A c most L) (hL : L.length ≤ 1073741824) (h1 : rk L k < L.length) (hi : isAt L k = false) :
    Calls Try.prog 14 #[.pointer (some ⟨g, 0, none⟩), .agg #[.int .i64 2, .int .u64 k, .int .u64 v]] w (PDoPost most L ⟨2, k, v⟩ g A w) := by
  have hrl := rk_le L k
  have hltg := hP.lt
  have hltA := Lib.hid hP.ltA
  have HP := Lib.hid hP
  go_enter Try.func14, Try.ntmps14
  go_wp2_with fail
  refine (prank_calls g c _ most L k _ (HP.out.fr (fr2 w _ _)) (by omega)).mono ?_
  rintro e w2 ⟨rfl, hw2⟩
  have ha := alloc2_snd w (.cells #[.int .i64 2, .int .u64 k, .int .u64 v] 33) (.cells #[.int .i64 0, .bool false, .int .u64 0, .int .u64 0, .int .i64 0, .slice none 0 0] 44)
  have ho := alloc2_fst w (.cells #[.int .i64 2, .int .u64 k, .int .u64 v] 33) (.cells #[.int .i64 0, .bool false, .int .u64 0, .int .u64 0, .int .i64 0, .slice none 0 0] 44)
  have hff := Lib.hid (fr2 w (.cells #[.int .i64 2, .int .u64 k, .int .u64 v] 33) (.cells #[.int .i64 0, .bool false, .int .u64 0, .int .u64 0, .int .i64 0, .slice none 0 0] 44))
  rw [← hw2] at ha ho hff
  clear hw2
  obtain ⟨o0, o1, o2⟩ := op_cells ho
  have HA := Lib.hid ha
  have HO := Lib.hid ho
  have hs2 : Hid (w.heap.size + 2 ≤ w2.heap.size) := (Array.getElem?_eq_some_iff.1 ha).1
  clear ha ho
  have HP2 := Lib.hid (HP.out.fr hff.out)
  have c1 := HP2.out.c1
  obtain ⟨gA, rfl, hc⟩ := HP2.out.cells (by omega)
  have HC := Lib.hid hc
  have hck := (hc _ h1).1
  have hz : (rk L k : Int) < (L.length : Int) := by omega
  obtain ⟨G, hG⟩ : ∃ G : Int, G = (L.getD (rk L k) (0, 0)).1 := ⟨_, rfl⟩
  rw [← hG] at hck
  have hgk : (G == k) = isAt L k := by
    unfold isAt
    have e : L[rk L k]? = some (L.getD (rk L k) (0, 0)) := by simp [h1]
    rw [e, hG]
  rw [hi] at hgk
  have HI := Lib.hid hi
  have HG := Lib.hid hG
  obtain ⟨V, hV⟩ : ∃ V : Int, V = (L.getD (rk L k) (0, 0)).2 := ⟨_, rfl⟩
  have HV := Lib.hid hV
  clear hc hG hi hP hV
  go_wp2_with fail
  go_quiet (fail)
  obtain ⟨w3, hw3⟩ : ∃ w3, w3 = w2.drewN nq := ⟨_, rfl⟩
  rw [← hw3]
  have hf3 : Hid (Fr w2 w3) := by rw [hw3]; exact fr_drewN _ _
  clear hw3
  have HA3 := Lib.hid (hf3.out.blk HA.out)
  obtain ⟨q0, q1, q2⟩ := op_cells (hf3.out.blk HO.out)
  have HP3 := Lib.hid (HP2.out.fr hf3.out)
  have d1 := HP3.out.c1
  have hs3 : Hid (w.heap.size + 2 ≤ w3.heap.size) := Nat.le_trans hs2.out hf3.out.size
  have hf4 : ∀ o, Fr w3 (w3.alloc o) := fun o => (Fr.refl w3).alloc o
  have q0a := fun o => (hf4 o).cell q0
  have q1a := fun o => (hf4 o).cell q1
  have q2a := fun o => (hf4 o).cell q2
  have d1a := fun o => (hf4 o).cell d1
  have hcv : ∀ o, (w3.alloc o).cell? ⟨gA, rk L k * 2 + 1, none⟩ = some (.int .u64 V) := fun o => by rw [HV.out]; exact (hf4 o).cell (hf3.out.cell (HC.out _ h1).2)
  have hckv : ∀ o, (w3.alloc o).cell? ⟨gA, rk L k * 2, none⟩ = some (.int .u64 G) := fun o => by rw [HG.out]; exact (hf4 o).cell (hf3.out.cell (HC.out _ h1).1)
  have HA4 : Hid (∀ o, (w3.alloc o).heap[w.heap.size + 1]? = _) := fun o => (hf4 o).blk HA3.out
  have z0 := fun o => (ans_cells (HA4.out o)).1
  have z1 := fun o => (ans_cells (HA4.out o)).2.1
  have z2 := fun o => (ans_cells (HA4.out o)).2.2.1
  have z3 := fun o => (ans_cells (HA4.out o)).2.2.2.1
  have z4 := fun o => (ans_cells (HA4.out o)).2.2.2.2.1
  have z5 := fun o => (ans_cells (HA4.out o)).2.2.2.2.2.1
  have y0 := fun o => (ans_cells (HA4.out o)).2.2.2.2.2.2.1
  have y1 := fun o => (ans_cells (HA4.out o)).2.2.2.2.2.2.2.1
  have y2 := fun o => (ans_cells (HA4.out o)).2.2.2.2.2.2.2.2.1
  have y3 := fun o => (ans_cells (HA4.out o)).2.2.2.2.2.2.2.2.2.1
  have y4 := fun o => (ans_cells (HA4.out o)).2.2.2.2.2.2.2.2.2.2.1
  have y5 := fun o => (ans_cells (HA4.out o)).2.2.2.2.2.2.2.2.2.2.2
  have HF4 := Lib.hid hf4
  clear hf4
  go_wp2_with fail
  exact bodyPost_ret (results_cell_row rfl _ _ (w.heap.size + 1) _ _ (0, 0) _ rfl (set6_heap (HA4.out _) _ _ _ _ _ _) Try.underlying44 rfl (by kernel_rfl)) rfl
    (pdo_nil (a := ⟨0, false, 0, 0, 0, []⟩) (L' := L) (does2_not HI.out) rfl (ppost_same6 HP.out ((hff.out.trans hf3.out).trans (HF4.out _)) (by omega) _ _ _ _ _ _))

end Go.Proofs.Ytjannhphmemenaa
