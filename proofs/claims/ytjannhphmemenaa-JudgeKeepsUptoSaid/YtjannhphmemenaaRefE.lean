/- The walks of the reference of layer 23: Do's put (printed). -/
import Derived.Test.YtjannhphmemenaaRefD
namespace Go.Proofs.Ytjannhphmemenaa
set_option maxRecDepth 100000
open Go.RowKit Go.Inc Go.Jud Go.Maps Go.Sort

theorem pput_calls (g c : Nat) (A : Option Addr) (most : Int) (L : List Pr) (k v : Int) (w : World) (hP : IsP w g A c most L) (hL : L.length ≤ 1073741824) (hk : U k) (hv : U v) :
    Calls Try.prog 23 #[.pointer (some ⟨g, 0, none⟩), .int .u64 k, .int .u64 v] w fun e w' => e = .returned (.int .i64 (does most L ⟨1, k, v⟩).1.code) ∧ PPost g A most (does most L ⟨1, k, v⟩).2 w w' := by
  have e : does most L ⟨1, k, v⟩ = (if isAt L k then (ans0, setL L k v) else if (L.length : Int) ≥ most then ({ ans0 with code := 161 }, L) else (ans0, insL L k v)) := rfl
  rw [e]
  cases hi : isAt L k with
  | true => rw [if_pos rfl]; exact pput_is g c A most L k v w hP hL hk hv hi
  | false =>
    rw [if_neg (by simp)]
    by_cases hm : (L.length : Int) ≥ most
    · rw [if_pos hm]; exact pput_full g c A most L k v w hP hL hi hm
    · rw [if_neg hm]; exact pput_new g c A most L k v w hP hL hk hv hi (by omega)
theorem end6 {S : Nat → Prop} {w w5 : World} {g gT gR c5 : Nat} {A5 : Option Addr} {most : Int} {L2 : List Pr} (hP5 : IsP w5 g A5 c5 most L2) (hm : Mv S w w5) (h1 : w.heap.size ≤ gT) (h2 : w.heap.size ≤ gR) (hg1 : g ≠ gT) (hg2 : g ≠ gR) (f1 : ablk A5 ≠ some gT) (f2 : ablk A5 ≠ some gR) (o : Nat) (x y0 y1 y2 y3 y4 y5 : Value) :
    IsP (set6 (w5.setCell ⟨gT, o, none⟩ x) gR y0 y1 y2 y3 y4 y5) g A5 c5 most L2 ∧ Mv S w (set6 (w5.setCell ⟨gT, o, none⟩ x) gR y0 y1 y2 y3 y4 y5) := by
  have m1 := (Mv.refl (one1 gT) w5).set (p := ⟨gT, o, none⟩) (.inl (show one1 gT gT from rfl)) x
  refine ⟨(hP5.mv m1 (fun e => hg1 e) (fun i hi e => f1 (by rw [hi]; rw [show i = gT from e]))).mv (set6_mv1 _ gR _ _ _ _ _ _) (fun e => hg2 e) (fun i hi e => f2 (by rw [hi]; rw [show i = gR from e])), ?_⟩
  exact set6_mv (hm.set (.inr h1) x) h2 _ _ _ _ _ _
theorem does1 (most : Int) (L : List Pr) (k v : Int) : ∃ cd L', does most L ⟨1, k, v⟩ = (⟨cd, false, 0, 0, 0, []⟩, L') := by
  have e : does most L ⟨1, k, v⟩ = (if isAt L k then (ans0, setL L k v) else if (L.length : Int) ≥ most then ({ ans0 with code := 161 }, L) else (ans0, insL L k v)) := rfl
  rw [e]
  split
  · exact ⟨0, _, rfl⟩
  · split
    · exact ⟨161, _, rfl⟩
    · exact ⟨0, _, rfl⟩

set_option maxHeartbeats 2000000 in
theorem pdo_put_out (g c : Nat) (A : Option Addr) (most : Int) (L : List Pr) (k v : Int) (w : World) (hP : IsP w g A c most L) (hL : L.length ≤ 1073741824) (hk : U k) (hv : U v) (h1 : L.length ≤ rk L k) :
    Calls Try.prog 14 #[.pointer (some ⟨g, 0, none⟩), .agg #[.int .i64 1, .int .u64 k, .int .u64 v]] w (PDoPost most L ⟨1, k, v⟩ g A w) := by
  have hrl := rk_le L k
  have hltg := hP.lt
  have hltA := Lib.hid hP.ltA
  have HP := Lib.hid hP
  go_enter Try.func14, Try.ntmps14
  go_wp2_with fail
  refine (prank_calls g c _ most L k _ (HP.out.fr (fr2 w _ _)) (by omega)).mono ?_
  rintro e w2 ⟨rfl, hw2⟩
  have ha := alloc2_snd w (.cells #[.int .i64 1, .int .u64 k, .int .u64 v] 33) (.cells #[.int .i64 0, .bool false, .int .u64 0, .int .u64 0, .int .i64 0, .slice none 0 0] 44)
  have ho := alloc2_fst w (.cells #[.int .i64 1, .int .u64 k, .int .u64 v] 33) (.cells #[.int .i64 0, .bool false, .int .u64 0, .int .u64 0, .int .i64 0, .slice none 0 0] 44)
  have hff := Lib.hid (fr2 w (.cells #[.int .i64 1, .int .u64 k, .int .u64 v] 33) (.cells #[.int .i64 0, .bool false, .int .u64 0, .int .u64 0, .int .i64 0, .slice none 0 0] 44))
  rw [← hw2] at ha ho hff
  clear hw2
  obtain ⟨o0, o1, o2⟩ := op_cells ho
  have HA := Lib.hid ha
  have HO := Lib.hid ho
  have hs2 : Hid (w.heap.size + 2 ≤ w2.heap.size) := (Array.getElem?_eq_some_iff.1 ha).1
  clear ha ho
  have HP2 := Lib.hid (HP.out.fr hff.out)
  have c1 := HP2.out.c1
  have hz : decide (rk L k < L.length) = false := decide_eq_false (by omega)
  have hi : isAt L k = false := by
    unfold isAt
    rw [List.getElem?_eq_none h1]
  have HI := Lib.hid hi
  clear h1 hi hP
  go_wp2_with fail
  go_quiet (fail)
  obtain ⟨w3, hw3⟩ : ∃ w3, w3 = w2.drewN nq := ⟨_, rfl⟩
  rw [← hw3]
  have hf3 : Hid (Fr w2 w3) := by rw [hw3]; exact fr_drewN _ _
  clear hw3
  have HA3 := Lib.hid (hf3.out.blk HA.out)
  obtain ⟨q0, q1, q2⟩ := op_cells (hf3.out.blk HO.out)
  have HP3 := Lib.hid (HP2.out.fr hf3.out)
  have d1 := HP3.out.c1
  have hs3 : Hid (w.heap.size + 2 ≤ w3.heap.size) := Nat.le_trans hs2.out hf3.out.size
  have hf4 : ∀ o, Fr w3 (w3.alloc o) := fun o => (Fr.refl w3).alloc o
  have q0a := fun o => (hf4 o).cell q0
  have q1a := fun o => (hf4 o).cell q1
  have q2a := fun o => (hf4 o).cell q2
  have d1a := fun o => (hf4 o).cell d1
  have HA4 : Hid (∀ o, (w3.alloc o).heap[w.heap.size + 1]? = _) := fun o => (hf4 o).blk HA3.out
  have z0 := fun o => (ans_cells (HA4.out o)).1
  have z1 := fun o => (ans_cells (HA4.out o)).2.1
  have z2 := fun o => (ans_cells (HA4.out o)).2.2.1
  have z3 := fun o => (ans_cells (HA4.out o)).2.2.2.1
  have z4 := fun o => (ans_cells (HA4.out o)).2.2.2.2.1
  have z5 := fun o => (ans_cells (HA4.out o)).2.2.2.2.2.1
  have y0 := fun o => (ans_cells (HA4.out o)).2.2.2.2.2.2.1
  have y1 := fun o => (ans_cells (HA4.out o)).2.2.2.2.2.2.2.1
  have y2 := fun o => (ans_cells (HA4.out o)).2.2.2.2.2.2.2.2.1
  have y3 := fun o => (ans_cells (HA4.out o)).2.2.2.2.2.2.2.2.2.1
  have y4 := fun o => (ans_cells (HA4.out o)).2.2.2.2.2.2.2.2.2.2.1
  have y5 := fun o => (ans_cells (HA4.out o)).2.2.2.2.2.2.2.2.2.2.2
  have HF4 := Lib.hid hf4
  clear hf4
  go_wp2_with fail
  have HPa := Lib.hid (HP3.out.fr (HF4.out (.cells #[.int .i64 0, .bool false, .int .u64 0, .int .u64 0, .int .i64 0, .slice none 0 0] 44)))
  have HAa := Lib.hid (HA4.out (.cells #[.int .i64 0, .bool false, .int .u64 0, .int .u64 0, .int .i64 0, .slice none 0 0] 44))
  have HTa := Lib.hid (heap_alloc_new w3 (.cells #[.int .i64 0, .bool false, .int .u64 0, .int .u64 0, .int .i64 0, .slice none 0 0] 44))
  have HFa := Lib.hid (HF4.out (.cells #[.int .i64 0, .bool false, .int .u64 0, .int .u64 0, .int .i64 0, .slice none 0 0] 44))
  obtain ⟨cd, L2, hdo⟩ := does1 most L k v
  have HDO := Lib.hid hdo
  clear hdo
  refine (pput_calls g c _ most L k v _ HPa.out hL hk hv).mono ?_
  rintro e w5 ⟨rfl, hpp⟩
  rw [HDO.out] at hpp ⊢
  obtain ⟨A5, c5, hP5, hA5, hm5⟩ := hpp
  have h3lt := hs3.out
  have hns : ¬ pset g A (w3.heap.size) := fun e => by
    rcases e with e | e
    · omega
    · have := hltA.out _ e; omega
  have hns2 : ¬ pset g A (w.heap.size + 1) := fun e => by
    rcases e with e | e
    · omega
    · have := hltA.out _ e; omega
  have HT5 := Lib.hid (hm5.blk HTa.out hns)
  have HA5 := Lib.hid (hm5.blk HAa.out hns2)
  obtain ⟨e0, e1, e2, e3, e4, e5, g0, g1, g2, g3, g4, g5⟩ := ans_cells HA5.out
  obtain ⟨t0, t1, t2, t3, t4, t5, u0, u1, u2, u3, u4, u5⟩ := ans_cells HT5.out
  have HP5 := Lib.hid hP5
  have HM5 := Lib.hid hm5
  have HAA := Lib.hid hA5
  have hne : w3.heap.size ≠ w.heap.size + 1 := by omega
  clear hP5 hm5 hA5 hns hns2 z0 z1 z2 z3 z4 z5 y0 y1 y2 y3 y4 y5 q0a q1a q2a d1a
  go_wp2_with fail
  have hA1 : ablk A5 ≠ some (w3.heap.size) := fun e => by
    rcases HAA.out with h | h
    · rw [h] at e; have := hltA.out _ e; omega
    · have h2 := h _ e; rw [World.size_alloc] at h2; omega
  have hA2 : ablk A5 ≠ some (w.heap.size + 1) := fun e => by
    rcases HAA.out with h | h
    · rw [h] at e; have := hltA.out _ e; omega
    · have h2 := h _ e; rw [World.size_alloc] at h2; omega
  have hmv : Mv _ w w5 := (Mv.of_fr ((hff.out.trans hf3.out).trans HFa.out)).trans' HM5.out
  have hend := end6 HP5.out hmv (by omega) (by omega) (by omega) (by omega) hA1 hA2 0 (.int .i64 cd) (.int .i64 cd) (.bool false) (.int .u64 0) (.int .u64 0) (.int .i64 0) (.slice none 0 0)
  exact bodyPost_ret (results_cell_row rfl _ _ (w.heap.size + 1) _ _ (0, 0) _ rfl (set6_heap (blk_set_ne HA5.out hne _) _ _ _ _ _ _) Try.underlying44 rfl (by kernel_rfl)) rfl
    (pdo_nil (a := ⟨cd, false, 0, 0, 0, []⟩) (L' := L2) HDO.out rfl ⟨A5, c5, hend.1, HAA.out.imp id (fun h k hk => Nat.le_trans (by simp; omega) (h k hk)), hend.2⟩)

set_option maxHeartbeats 2000000 in
theorem pdo_put_is (g c : Nat) (A : Option Addr) (most : Int) (L : List Pr) (k v : Int) (w : World) (hP : IsP w g A c most L) (hL : L.length ≤ 1073741824) (hk : U k) (hv : U v) (h1 : rk L k < L.length) (hi : isAt L k = true) :
    Calls Try.prog 14 #[.pointer (some ⟨g, 0, none⟩), .agg #[.int .i64 1, .int .u64 k, .int .u64 v]] w (PDoPost most L ⟨1, k, v⟩ g A w) := by
  have hrl := rk_le L k
  have hltg := hP.lt
  have hltA := Lib.hid hP.ltA
  have HP := Lib.hid hP
  go_enter Try.func14, Try.ntmps14
  go_wp2_with fail
  refine (prank_calls g c _ most L k _ (HP.out.fr (fr2 w _ _)) (by omega)).mono ?_
  rintro e w2 ⟨rfl, hw2⟩
  have ha := alloc2_snd w (.cells #[.int .i64 1, .int .u64 k, .int .u64 v] 33) (.cells #[.int .i64 0, .bool false, .int .u64 0, .int .u64 0, .int .i64 0, .slice none 0 0] 44)
  have ho := alloc2_fst w (.cells #[.int .i64 1, .int .u64 k, .int .u64 v] 33) (.cells #[.int .i64 0, .bool false, .int .u64 0, .int .u64 0, .int .i64 0, .slice none 0 0] 44)
  have hff := Lib.hid (fr2 w (.cells #[.int .i64 1, .int .u64 k, .int .u64 v] 33) (.cells #[.int .i64 0, .bool false, .int .u64 0, .int .u64 0, .int .i64 0, .slice none 0 0] 44))
  rw [← hw2] at ha ho hff
  clear hw2
  obtain ⟨o0, o1, o2⟩ := op_cells ho
  have HA := Lib.hid ha
  have HO := Lib.hid ho
  have hs2 : Hid (w.heap.size + 2 ≤ w2.heap.size) := (Array.getElem?_eq_some_iff.1 ha).1
  clear ha ho
  have HP2 := Lib.hid (HP.out.fr hff.out)
  have c1 := HP2.out.c1
  obtain ⟨gA, rfl, hc⟩ := HP2.out.cells (by omega)
  have HC := Lib.hid hc
  have hck := (hc _ h1).1
  have hz : (rk L k : Int) < (L.length : Int) := by omega
  obtain ⟨G, hG⟩ : ∃ G : Int, G = (L.getD (rk L k) (0, 0)).1 := ⟨_, rfl⟩
  rw [← hG] at hck
  have hgk : (G == k) = isAt L k := by
    unfold isAt
    have e : L[rk L k]? = some (L.getD (rk L k) (0, 0)) := by simp [h1]
    rw [e, hG]
  rw [hi] at hgk
  have HI := Lib.hid hi
  have HG := Lib.hid hG
  obtain ⟨V, hV⟩ : ∃ V : Int, V = (L.getD (rk L k) (0, 0)).2 := ⟨_, rfl⟩
  have HV := Lib.hid hV
  clear hc hG hi hP hV
  go_wp2_with fail
  go_quiet (fail)
  obtain ⟨w3, hw3⟩ : ∃ w3, w3 = w2.drewN nq := ⟨_, rfl⟩
  rw [← hw3]
  have hf3 : Hid (Fr w2 w3) := by rw [hw3]; exact fr_drewN _ _
  clear hw3
  have HA3 := Lib.hid (hf3.out.blk HA.out)
  obtain ⟨q0, q1, q2⟩ := op_cells (hf3.out.blk HO.out)
  have HP3 := Lib.hid (HP2.out.fr hf3.out)
  have d1 := HP3.out.c1
  have hs3 : Hid (w.heap.size + 2 ≤ w3.heap.size) := Nat.le_trans hs2.out hf3.out.size
  have hf4 : ∀ o, Fr w3 (w3.alloc o) := fun o => (Fr.refl w3).alloc o
  have q0a := fun o => (hf4 o).cell q0
  have q1a := fun o => (hf4 o).cell q1
  have q2a := fun o => (hf4 o).cell q2
  have d1a := fun o => (hf4 o).cell d1
  have hcv : ∀ o, (w3.alloc o).cell? ⟨gA, rk L k * 2 + 1, none⟩ = some (.int .u64 V) := fun o => by rw [HV.out]; exact (hf4 o).cell (hf3.out.cell (HC.out _ h1).2)
  have hckv : ∀ o, (w3.alloc o).cell? ⟨gA, rk L k * 2, none⟩ = some (.int .u64 G) := fun o => by rw [HG.out]; exact (hf4 o).cell (hf3.out.cell (HC.out _ h1).1)
  have HA4 : Hid (∀ o, (w3.alloc o).heap[w.heap.size + 1]? = _) := fun o => (hf4 o).blk HA3.out
  have z0 := fun o => (ans_cells (HA4.out o)).1
  have z1 := fun o => (ans_cells (HA4.out o)).2.1
  have z2 := fun o => (ans_cells (HA4.out o)).2.2.1
  have z3 := fun o => (ans_cells (HA4.out o)).2.2.2.1
  have z4 := fun o => (ans_cells (HA4.out o)).2.2.2.2.1
  have z5 := fun o => (ans_cells (HA4.out o)).2.2.2.2.2.1
  have y0 := fun o => (ans_cells (HA4.out o)).2.2.2.2.2.2.1
  have y1 := fun o => (ans_cells (HA4.out o)).2.2.2.2.2.2.2.1
  have y2 := fun o => (ans_cells (HA4.out o)).2.2.2.2.2.2.2.2.1
  have y3 := fun o => (ans_cells (HA4.out o)).2.2.2.2.2.2.2.2.2.1
  have y4 := fun o => (ans_cells (HA4.out o)).2.2.2.2.2.2.2.2.2.2.1
  have y5 := fun o => (ans_cells (HA4.out o)).2.2.2.2.2.2.2.2.2.2.2
  have HF4 := Lib.hid hf4
  clear hf4
  go_wp2_with fail
  have HPa := Lib.hid (HP3.out.fr (HF4.out (.cells #[.int .i64 0, .bool false, .int .u64 0, .int .u64 0, .int .i64 0, .slice none 0 0] 44)))
  have HAa := Lib.hid (HA4.out (.cells #[.int .i64 0, .bool false, .int .u64 0, .int .u64 0, .int .i64 0, .slice none 0 0] 44))
  have HTa := Lib.hid (heap_alloc_new w3 (.cells #[.int .i64 0, .bool false, .int .u64 0, .int .u64 0, .int .i64 0, .slice none 0 0] 44))
  have HFa := Lib.hid (HF4.out (.cells #[.int .i64 0, .bool false, .int .u64 0, .int .u64 0, .int .i64 0, .slice none 0 0] 44))
  obtain ⟨cd, L2, hdo⟩ := does1 most L k v
  have HDO := Lib.hid hdo
  clear hdo
  refine (pput_calls g c _ most L k v _ HPa.out hL hk hv).mono ?_
  rintro e w5 ⟨rfl, hpp⟩
  rw [HDO.out] at hpp ⊢
  obtain ⟨A5, c5, hP5, hA5, hm5⟩ := hpp
  have h3lt := hs3.out
  have hns : ¬ pset g (some ⟨gA, 0, none⟩) (w3.heap.size) := fun e => by
    rcases e with e | e
    · omega
    · have := hltA.out _ e; omega
  have hns2 : ¬ pset g (some ⟨gA, 0, none⟩) (w.heap.size + 1) := fun e => by
    rcases e with e | e
    · omega
    · have := hltA.out _ e; omega
  have HT5 := Lib.hid (hm5.blk HTa.out hns)
  have HA5 := Lib.hid (hm5.blk HAa.out hns2)
  obtain ⟨e0, e1, e2, e3, e4, e5, g0, g1, g2, g3, g4, g5⟩ := ans_cells HA5.out
  obtain ⟨t0, t1, t2, t3, t4, t5, u0, u1, u2, u3, u4, u5⟩ := ans_cells HT5.out
  have HP5 := Lib.hid hP5
  have HM5 := Lib.hid hm5
  have HAA := Lib.hid hA5
  have hne : w3.heap.size ≠ w.heap.size + 1 := by omega
  clear hP5 hm5 hA5 hns hns2 z0 z1 z2 z3 z4 z5 y0 y1 y2 y3 y4 y5 q0a q1a q2a d1a
  go_wp2_with fail
  have hA1 : ablk A5 ≠ some (w3.heap.size) := fun e => by
    rcases HAA.out with h | h
    · rw [h] at e; have := hltA.out _ e; omega
    · have h2 := h _ e; rw [World.size_alloc] at h2; omega
  have hA2 : ablk A5 ≠ some (w.heap.size + 1) := fun e => by
    rcases HAA.out with h | h
    · rw [h] at e; have := hltA.out _ e; omega
    · have h2 := h _ e; rw [World.size_alloc] at h2; omega
  have hmv : Mv _ w w5 := (Mv.of_fr ((hff.out.trans hf3.out).trans HFa.out)).trans' HM5.out
  have hend := end6 HP5.out hmv (by omega) (by omega) (by omega) (by omega) hA1 hA2 0 (.int .i64 cd) (.int .i64 cd) (.bool false) (.int .u64 0) (.int .u64 0) (.int .i64 0) (.slice none 0 0)
  exact bodyPost_ret (results_cell_row rfl _ _ (w.heap.size + 1) _ _ (0, 0) _ rfl (set6_heap (blk_set_ne HA5.out hne _) _ _ _ _ _ _) Try.underlying44 rfl (by kernel_rfl)) rfl
    (pdo_nil (a := ⟨cd, false, 0, 0, 0, []⟩) (L' := L2) HDO.out rfl ⟨A5, c5, hend.1, HAA.out.imp id (fun h k hk => Nat.le_trans (by simp; omega) (h k hk)), hend.2⟩)

set_option maxHeartbeats 2000000 in
theorem pdo_put_no (g c : Nat) (A : Option Addr) (most : Int) (L : List Pr) (k v : Int) (w : World) (hP : IsP w g A c most L) (hL : L.length ≤ 1073741824) (hk : U k) (hv : U v) (h1 : rk L k < L.length) (hi : isAt L k = false) :
    Calls Try.prog 14 #[.pointer (some ⟨g, 0, none⟩), .agg #[.int .i64 1, .int .u64 k, .int .u64 v]] w (PDoPost most L ⟨1, k, v⟩ g A w) := by
  have hrl := rk_le L k
  have hltg := hP.lt
  have hltA := Lib.hid hP.ltA
  have HP := Lib.hid hP
  go_enter Try.func14, Try.ntmps14
  go_wp2_with fail
  refine (prank_calls g c _ most L k _ (HP.out.fr (fr2 w _ _)) (by omega)).mono ?_
  rintro e w2 ⟨rfl, hw2⟩
  have ha := alloc2_snd w (.cells #[.int .i64 1, .int .u64 k, .int .u64 v] 33) (.cells #[.int .i64 0, .bool false, .int .u64 0, .int .u64 0, .int .i64 0, .slice none 0 0] 44)
  have ho := alloc2_fst w (.cells #[.int .i64 1, .int .u64 k, .int .u64 v] 33) (.cells #[.int .i64 0, .bool false, .int .u64 0, .int .u64 0, .int .i64 0, .slice none 0 0] 44)
  have hff := Lib.hid (fr2 w (.cells #[.int .i64 1, .int .u64 k, .int .u64 v] 33) (.cells #[.int .i64 0, .bool false, .int .u64 0, .int .u64 0, .int .i64 0, .slice none 0 0] 44))
  rw [← hw2] at ha ho hff
  clear hw2
  obtain ⟨o0, o1, o2⟩ := op_cells ho
  have HA := Lib.hid ha
  have HO := Lib.hid ho
  have hs2 : Hid (w.heap.size + 2 ≤ w2.heap.size) := (Array.getElem?_eq_some_iff.1 ha).1
  clear ha ho
  have HP2 := Lib.hid (HP.out.fr hff.out)
  have c1 := HP2.out.c1
  obtain ⟨gA, rfl, hc⟩ := HP2.out.cells (by omega)
  have HC := Lib.hid hc
  have hck := (hc _ h1).1
  have hz : (rk L k : Int) < (L.length : Int) := by omega
  obtain ⟨G, hG⟩ : ∃ G : Int, G = (L.getD (rk L k) (0, 0)).1 := ⟨_, rfl⟩
  rw [← hG] at hck
  have hgk : (G == k) = isAt L k := by
    unfold isAt
    have e : L[rk L k]? = some (L.getD (rk L k) (0, 0)) := by simp [h1]
    rw [e, hG]
  rw [hi] at hgk
  have HI := Lib.hid hi
  have HG := Lib.hid hG
  obtain ⟨V, hV⟩ : ∃ V : Int, V = (L.getD (rk L k) (0, 0)).2 := ⟨_, rfl⟩
  have HV := Lib.hid hV
  clear hc hG hi hP hV
  go_wp2_with fail
  go_quiet (fail)
  obtain ⟨w3, hw3⟩ : ∃ w3, w3 = w2.drewN nq := ⟨_, rfl⟩
  rw [← hw3]
  have hf3 : Hid (Fr w2 w3) := by rw [hw3]; exact fr_drewN _ _
  clear hw3
  have HA3 := Lib.hid (hf3.out.blk HA.out)
  obtain ⟨q0, q1, q2⟩ := op_cells (hf3.out.blk HO.out)
  have HP3 := Lib.hid (HP2.out.fr hf3.out)
  have d1 := HP3.out.c1
  have hs3 : Hid (w.heap.size + 2 ≤ w3.heap.size) := Nat.le_trans hs2.out hf3.out.size
  have hf4 : ∀ o, Fr w3 (w3.alloc o) := fun o => (Fr.refl w3).alloc o
  have q0a := fun o => (hf4 o).cell q0
  have q1a := fun o => (hf4 o).cell q1
  have q2a := fun o => (hf4 o).cell q2
  have d1a := fun o => (hf4 o).cell d1
  have hcv : ∀ o, (w3.alloc o).cell? ⟨gA, rk L k * 2 + 1, none⟩ = some (.int .u64 V) := fun o => by rw [HV.out]; exact (hf4 o).cell (hf3.out.cell (HC.out _ h1).2)
  have hckv : ∀ o, (w3.alloc o).cell? ⟨gA, rk L k * 2, none⟩ = some (.int .u64 G) := fun o => by rw [HG.out]; exact (hf4 o).cell (hf3.out.cell (HC.out _ h1).1)
  have HA4 : Hid (∀ o, (w3.alloc o).heap[w.heap.size + 1]? = _) := fun o => (hf4 o).blk HA3.out
  have z0 := fun o => (ans_cells (HA4.out o)).1
  have z1 := fun o => (ans_cells (HA4.out o)).2.1
  have z2 := fun o => (ans_cells (HA4.out o)).2.2.1
  have z3 := fun o => (ans_cells (HA4.out o)).2.2.2.1
  have z4 := fun o => (ans_cells (HA4.out o)).2.2.2.2.1
  have z5 := fun o => (ans_cells (HA4.out o)).2.2.2.2.2.1
  have y0 := fun o => (ans_cells (HA4.out o)).2.2.2.2.2.2.1
  have y1 := fun o => (ans_cells (HA4.out o)).2.2.2.2.2.2.2.1
  have y2 := fun o => (ans_cells (HA4.out o)).2.2.2.2.2.2.2.2.1
  have y3 := fun o => (ans_cells (HA4.out o)).2.2.2.2.2.2.2.2.2.1
  have y4 := fun o => (ans_cells (HA4.out o)).2.2.2.2.2.2.2.2.2.2.1
  have y5 := fun o => (ans_cells (HA4.out o)).2.2.2.2.2.2.2.2.2.2.2
  have HF4 := Lib.hid hf4
  clear hf4
  go_wp2_with fail
  have HPa := Lib.hid (HP3.out.fr (HF4.out (.cells #[.int .i64 0, .bool false, .int .u64 0, .int .u64 0, .int .i64 0, .slice none 0 0] 44)))
  have HAa := Lib.hid (HA4.out (.cells #[.int .i64 0, .bool false, .int .u64 0, .int .u64 0, .int .i64 0, .slice none 0 0] 44))
  have HTa := Lib.hid (heap_alloc_new w3 (.cells #[.int .i64 0, .bool false, .int .u64 0, .int .u64 0, .int .i64 0, .slice none 0 0] 44))
  have HFa := Lib.hid (HF4.out (.cells #[.int .i64 0, .bool false, .int .u64 0, .int .u64 0, .int .i64 0, .slice none 0 0] 44))
  obtain ⟨cd, L2, hdo⟩ := does1 most L k v
  have HDO := Lib.hid hdo
  clear hdo
  refine (pput_calls g c _ most L k v _ HPa.out hL hk hv).mono ?_
  rintro e w5 ⟨rfl, hpp⟩
  rw [HDO.out] at hpp ⊢
  obtain ⟨A5, c5, hP5, hA5, hm5⟩ := hpp
  have h3lt := hs3.out
  have hns : ¬ pset g (some ⟨gA, 0, none⟩) (w3.heap.size) := fun e => by
    rcases e with e | e
    · omega
    · have := hltA.out _ e; omega
  have hns2 : ¬ pset g (some ⟨gA, 0, none⟩) (w.heap.size + 1) := fun e => by
    rcases e with e | e
    · omega
    · have := hltA.out _ e; omega
  have HT5 := Lib.hid (hm5.blk HTa.out hns)
  have HA5 := Lib.hid (hm5.blk HAa.out hns2)
  obtain ⟨e0, e1, e2, e3, e4, e5, g0, g1, g2, g3, g4, g5⟩ := ans_cells HA5.out
  obtain ⟨t0, t1, t2, t3, t4, t5, u0, u1, u2, u3, u4, u5⟩ := ans_cells HT5.out
  have HP5 := Lib.hid hP5
  have HM5 := Lib.hid hm5
  have HAA := Lib.hid hA5
  have hne : w3.heap.size ≠ w.heap.size + 1 := by omega
  clear hP5 hm5 hA5 hns hns2 z0 z1 z2 z3 z4 z5 y0 y1 y2 y3 y4 y5 q0a q1a q2a d1a
  go_wp2_with fail
  have hA1 : ablk A5 ≠ some (w3.heap.size) := fun e => by
    rcases HAA.out with h | h
    · rw [h] at e; have := hltA.out _ e; omega
    · have h2 := h _ e; rw [World.size_alloc] at h2; omega
  have hA2 : ablk A5 ≠ some (w.heap.size + 1) := fun e => by
    rcases HAA.out with h | h
    · rw [h] at e; have := hltA.out _ e; omega
    · have h2 := h _ e; rw [World.size_alloc] at h2; omega
  have hmv : Mv _ w w5 := (Mv.of_fr ((hff.out.trans hf3.out).trans HFa.out)).trans' HM5.out
  have hend := end6 HP5.out hmv (by omega) (by omega) (by omega) (by omega) hA1 hA2 0 (.int .i64 cd) (.int .i64 cd) (.bool false) (.int .u64 0) (.int .u64 0) (.int .i64 0) (.slice none 0 0)
  exact bodyPost_ret (results_cell_row rfl _ _ (w.heap.size + 1) _ _ (0, 0) _ rfl (set6_heap (blk_set_ne HA5.out hne _) _ _ _ _ _ _) Try.underlying44 rfl (by kernel_rfl)) rfl
    (pdo_nil (a := ⟨cd, false, 0, 0, 0, []⟩) (L' := L2) HDO.out rfl ⟨A5, c5, hend.1, HAA.out.imp id (fun h k hk => Nat.le_trans (by simp; omega) (h k hk)), hend.2⟩)

end Go.Proofs.Ytjannhphmemenaa
