/- Do: delete of a key that is there. -/
import Derived.Test.YtjannhphmemenaaRefG
import Derived.Deep.DeepCutAuto
import Derived.Deep.RegionLaw
namespace Go.Proofs.Ytjannhphmemenaa
set_option maxRecDepth 100000
open Go.RowKit Go.Inc Go.Jud Go.Maps Go.Sort

theorem delL_is {L : List Pr} {k : Int} (hi : isAt L k = true) : delL L k = L.take (rk L k) ++ L.drop (rk L k + 1) := by unfold delL; rw [hi]; rfl
theorem does2_del {most : Int} {L : List Pr} {k v : Int} (hi : isAt L k = true) : does most L ⟨2, k, v⟩ = (⟨0, true, 0, 0, 0, []⟩, delL L k) := by
  have e : does most L ⟨2, k, v⟩ = ({ ans0 with is := isAt L k }, delL L k) := rfl
  rw [e, hi]; rfl
theorem hlen {L : List Pr} (k : Int) (hi : isAt L k = true) : rk L k + (L.length - (rk L k + 1)) = (delL L k).length := by
  have := len_del L k
  have h1 := isAt_lt hi
  rw [hi, if_pos rfl] at this
  omega
theorem pstore_end {w w6 : World} {g c0 c6 n base : Nat} {A0 A6 : Option Addr} {most : Int} {L0 L' : List Pr} {xs : List Value} (hP6 : IsP w6 g A0 c0 most L0) (hf : Fr w w6) (hg : g < w.heap.size) (ho6 : Own w6 base 55 2 A6 n c6 xs) (hbase : w.heap.size + 2 ≤ base)
    (hn : n = L'.length) (hx : xs = L'.flatMap pcells) (hU : Up L') (hI : InU L') (A : Option Addr) (y0 y1 y2 y3 y4 y5 : Value) : PPost g A most L' w (set6 (w6.setCell ⟨g, 1, none⟩ (.slice A6 n c6)) (w.heap.size + 1) y0 y1 y2 y3 y4 y5) := by
  subst hn; subst hx
  have hlt := ho6.lt
  have hne6 : ablk A6 ≠ some g := fun e => by have := (hlt g e).1; omega
  have h1 : IsP (w6.setCell ⟨g, 1, none⟩ (.slice A6 L'.length c6)) g A6 c6 most L' := by
    refine ⟨?_, ?_, hU, hI, hne6⟩
    · have := blk_set hP6.blk 1 (.slice A6 L'.length c6)
      simpa using this
    · exact (ho6.mono (Nat.zero_le _)).mv (S := one1 g) ((Mv.refl _ _).set (p := ⟨g, 1, none⟩) (.inl (show one1 g g from rfl)) _) (fun i hi e => hne6 (by rw [hi]; rw [show i = g from e]))
  exact ⟨A6, c6, h1.mv (set6_mv1 _ _ _ _ _ _ _ _) (fun e => by have : g = w.heap.size + 1 := e; omega) (fun i hi e => by have h2 : i = w.heap.size + 1 := e; have := (hlt i hi).1; omega),
    .inr (fun i hi => by have := (hlt i hi).1; omega), set6_mv ((Mv.of_fr hf).set (p := ⟨g, 1, none⟩) (.inl (.inl rfl)) _) (by omega) _ _ _ _ _ _⟩

set_option maxHeartbeats 2000000 in
theorem pdo_del_is (g c : Nat) (A : Option Addr) (most : Int) (L : List Pr) (k v : Int) (w : World) (hP : IsP w g A c most L) (hL : L.length ≤ 1073741824) (h1 : rk L k < L.length) (hi : isAt L k = true) :
    Calls Try.prog 14 #[.pointer (some ⟨g, 0, none⟩), .agg #[.int .i64 2, .int .u64 k, .int .u64 v]] w (PDoPost most L ⟨2, k, v⟩ g A w) := by
  have hrl := rk_le L k
  have hltg := hP.lt
  have hltA := Lib.hid hP.ltA
  have HP := Lib.hid hP
  have H1 := Lib.hid h1
  go_enter Try.func14, Try.ntmps14
  go_wp2_with fail
  refine (prank_calls g c _ most L k _ (HP.out.fr (fr2 w _ _)) (by omega)).mono ?_
  rintro e w2 ⟨rfl, hw2⟩
  have ha := alloc2_snd w (.cells #[.int .i64 2, .int .u64 k, .int .u64 v] 33) (.cells #[.int .i64 0, .bool false, .int .u64 0, .int .u64 0, .int .i64 0, .slice none 0 0] 44)
  have ho := alloc2_fst w (.cells #[.int .i64 2, .int .u64 k, .int .u64 v] 33) (.cells #[.int .i64 0, .bool false, .int .u64 0, .int .u64 0, .int .i64 0, .slice none 0 0] 44)
  have hff := Lib.hid (fr2 w (.cells #[.int .i64 2, .int .u64 k, .int .u64 v] 33) (.cells #[.int .i64 0, .bool false, .int .u64 0, .int .u64 0, .int .i64 0, .slice none 0 0] 44))
  rw [← hw2] at ha ho hff
  clear hw2
  obtain ⟨o0, o1, o2⟩ := op_cells ho
  have HA := Lib.hid ha
  have HO := Lib.hid ho
  have hs2 : Hid (w.heap.size + 2 ≤ w2.heap.size) := (Array.getElem?_eq_some_iff.1 ha).1
  clear ha ho
  have HP2 := Lib.hid (HP.out.fr hff.out)
  have c1 := HP2.out.c1
  obtain ⟨gA, rfl, hc⟩ := HP2.out.cells (by omega)
  have HC := Lib.hid hc
  have hck := (hc _ h1).1
  have hz : (rk L k : Int) < (L.length : Int) := by omega
  obtain ⟨G, hG⟩ : ∃ G : Int, G = (L.getD (rk L k) (0, 0)).1 := ⟨_, rfl⟩
  rw [← hG] at hck
  have hgk : (G == k) = isAt L k := by
    unfold isAt
    have e : L[rk L k]? = some (L.getD (rk L k) (0, 0)) := by simp [h1]
    rw [e, hG]
  rw [hi] at hgk
  have HI := Lib.hid hi
  have HG := Lib.hid hG
  obtain ⟨V, hV⟩ : ∃ V : Int, V = (L.getD (rk L k) (0, 0)).2 := ⟨_, rfl⟩
  have HV := Lib.hid hV
  clear hc hG hi hP hV
  go_wp2_with fail
  go_quiet (fail)
  obtain ⟨w3, hw3⟩ : ∃ w3, w3 = w2.drewN nq := ⟨_, rfl⟩
  rw [← hw3]
  have hf3 : Hid (Fr w2 w3) := by rw [hw3]; exact fr_drewN _ _
  clear hw3
  have HA3 := Lib.hid (hf3.out.blk HA.out)
  obtain ⟨q0, q1, q2⟩ := op_cells (hf3.out.blk HO.out)
  have HP3 := Lib.hid (HP2.out.fr hf3.out)
  have d1 := HP3.out.c1
  have hs3 : Hid (w.heap.size + 2 ≤ w3.heap.size) := Nat.le_trans hs2.out hf3.out.size
  have hf4 : ∀ o, Fr w3 (w3.alloc o) := fun o => (Fr.refl w3).alloc o
  have q0a := fun o => (hf4 o).cell q0
  have q1a := fun o => (hf4 o).cell q1
  have q2a := fun o => (hf4 o).cell q2
  have d1a := fun o => (hf4 o).cell d1
  have hcv : ∀ o, (w3.alloc o).cell? ⟨gA, rk L k * 2 + 1, none⟩ = some (.int .u64 V) := fun o => by rw [HV.out]; exact (hf4 o).cell (hf3.out.cell (HC.out _ h1).2)
  have hckv : ∀ o, (w3.alloc o).cell? ⟨gA, rk L k * 2, none⟩ = some (.int .u64 G) := fun o => by rw [HG.out]; exact (hf4 o).cell (hf3.out.cell (HC.out _ h1).1)
  have HA4 : Hid (∀ o, (w3.alloc o).heap[w.heap.size + 1]? = _) := fun o => (hf4 o).blk HA3.out
  have z0 := fun o => (ans_cells (HA4.out o)).1
  have z1 := fun o => (ans_cells (HA4.out o)).2.1
  have z2 := fun o => (ans_cells (HA4.out o)).2.2.1
  have z3 := fun o => (ans_cells (HA4.out o)).2.2.2.1
  have z4 := fun o => (ans_cells (HA4.out o)).2.2.2.2.1
  have z5 := fun o => (ans_cells (HA4.out o)).2.2.2.2.2.1
  have y0 := fun o => (ans_cells (HA4.out o)).2.2.2.2.2.2.1
  have y1 := fun o => (ans_cells (HA4.out o)).2.2.2.2.2.2.2.1
  have y2 := fun o => (ans_cells (HA4.out o)).2.2.2.2.2.2.2.2.1
  have y3 := fun o => (ans_cells (HA4.out o)).2.2.2.2.2.2.2.2.2.1
  have y4 := fun o => (ans_cells (HA4.out o)).2.2.2.2.2.2.2.2.2.2.1
  have y5 := fun o => (ans_cells (HA4.out o)).2.2.2.2.2.2.2.2.2.2.2
  have HF4 := Lib.hid hf4
  clear hf4
  go_wp2_with fail
  obtain ⟨w4, hw4⟩ : ∃ w4, w4 = w3.alloc (.cells #[.int .i64 0, .bool true, .int .u64 0, .int .u64 0, .int .i64 0, .slice none 0 0] 44) := ⟨_, rfl⟩
  rw [← hw4]
  have HFa : Hid (Fr w3 w4) := by rw [hw4]; exact HF4.out _
  have HAa : Hid (w4.heap[w.heap.size + 1]? = some (.cells #[.int .i64 0, .bool false, .int .u64 0, .int .u64 0, .int .i64 0, .slice none 0 0] 44)) := by rw [hw4]; exact HA4.out (.cells #[.int .i64 0, .bool true, .int .u64 0, .int .u64 0, .int .i64 0, .slice none 0 0] 44)
  have HTa : Hid (w4.heap[w3.heap.size]? = some (.cells #[.int .i64 0, .bool true, .int .u64 0, .int .u64 0, .int .i64 0, .slice none 0 0] 44)) := by rw [hw4]; exact heap_alloc_new w3 (.cells #[.int .i64 0, .bool true, .int .u64 0, .int .u64 0, .int .i64 0, .slice none 0 0] 44)
  clear hw4 z0 z1 z2 z3 z4 z5 y0 y1 y2 y3 y4 y5 q0a q1a q2a d1a hcv hckv
  have HP4 := Lib.hid (HP3.out.fr HFa.out)
  have p1 := HP4.out.c1
  have pf1 := HP4.out.f1
  have hcap := HP4.out.cap
  have h1z : (rk L k : Int) + 1 = ((rk L k + 1 : Nat) : Int) := by omega
  obtain ⟨A2, hcut, -, hrd2⟩ := run_cut_h (P := Try.prog) 42 55 2 Try.underlying42 info_sz_pair (some ⟨gA, 0, none⟩) L.length c (rk L k) (rk L k : Int) rfl (by omega) .i64
  obtain ⟨A3, hcut3, -, hrd3⟩ := run_cut_l (P := Try.prog) 42 55 2 Try.underlying42 info_sz_pair (some ⟨gA, 0, none⟩) L.length c (rk L k + 1) ((rk L k : Int) + 1) h1z (by omega) hcap .i64
  have R2 : Hid (RdC w4 A2 ((L.take (rk L k)).flatMap pcells)) := by
    have := hrd2 w4 _ (HP4.out.own.rd.take (rk L k * 2))
    rwa [flat_take _ (by omega)] at this
  have R3 : Hid (RdC w4 A3 ((L.drop (rk L k + 1)).flatMap pcells)) := by
    have := hrd3 w4 _ (by rw [flat_len pcells 2 pcells_len]) HP4.out.own.rd
    rwa [flat_drop _ (by omega)] at this
  have HLE : Hid (((L.take (rk L k)).flatMap pcells).length = rk L k * 2) := by rw [Hid, flat_len pcells 2 pcells_len, List.length_take]; omega
  have HLE3 : Hid (((L.drop (rk L k + 1)).flatMap pcells).length = (L.length - (rk L k + 1)) * 2) := by rw [Hid, flat_len pcells 2 pcells_len, List.length_drop]
  have hwr : IntKind.i64.wrap ((rk L k : Int) + 1) = (rk L k : Int) + 1 := wrap_i64_in _ (by omega) (by omega)
  clear hrd2 hrd3 h1z
  have hne : g ≠ w3.heap.size := by have := hs3.out; omega
  have hne2 : g ≠ w.heap.size + 1 := by omega
  have hne3 : w3.heap.size ≠ w.heap.size + 1 := by have := hs3.out; omega
  have p1a := ((Fr.refl w4).alloc (.cells #[] 55)).cell p1
  clear hltg hrl hz
  go_region_law (first
      | (refine step_app rfl (.tmp 51) (.tmp 57) 42 rfl 55 (.agg #[.int .u64 0, .int .u64 0]) 2 16 Try.underlying42 info_pair rfl (by omega) (by omega) w4.heap.size (some ⟨w4.heap.size, 0, none⟩) 0 0 [] A2 (rk L k) c ((L.take (rk L k)).flatMap pcells) ?_ ?_
          (Own.of_blk (Blk.new w4.drew [] _) (Nat.le_refl _) rfl (by omega)) HLE.out (R2.out.fr (((Fr.refl w4).drew).alloc _)) (pcells_one _) (by omega) (by simp) ?_; exact rfl; exact rfl; intro A5 c5 w5 hown5 hgr5 hat5; have hf5 : Hid (Fr w4 w5) := (((Fr.refl w4).drew).alloc _).grown hgr5.out (fun k hk => by simp [ablk] at hk; omega); have p15 := hf5.out.cell p1; have ho5 : Hid (Own w5 w4.heap.size 55 2 A5 (rk L k) c5 ((L.take (rk L k)).flatMap pcells)) := by simpa [Hid] using hown5.out)
      | (refine step_app rfl (.tmp 58) (.tmp 65) 42 rfl 55 (.agg #[.int .u64 0, .int .u64 0]) 2 16 Try.underlying42 info_pair rfl (by omega) (by omega) w4.heap.size A5 (rk L k) c5 ((L.take (rk L k)).flatMap pcells) A3 (L.length - (rk L k + 1)) (c - (rk L k + 1)) ((L.drop (rk L k + 1)).flatMap pcells) ?_ ?_
          ho5.out HLE3.out (R3.out.fr hf5.out) (pcells_one _) (by omega) (by have := hf5.out.size; omega) ?_; exact rfl; exact rfl; intro A6 c6 w6 hown6 hgr6 hat6; have hf6 : Hid (Fr w4 w6) := hf5.out.grown hgr6.out (fun k hk => (ho5.out.lt k hk).1); have p16 := hf6.out.cell p1; have g6 := (HP4.out.fr hf6.out).f1; obtain ⟨t0, t1, t2, t3, t4, t5, u0, u1, u2, u3, u4, u5⟩ := ans_cells (hf6.out.blk HTa.out); obtain ⟨e0, e1, e2, e3, e4, e5, g0, g1, g2, g3, g4, g5⟩ := ans_cells (hf6.out.blk HAa.out)))
  all_goals (go_wp2_with fail)
  all_goals
    exact bodyPost_ret (results_cell_row rfl _ _ (w.heap.size + 1) _ _ (0, 0) _ rfl (set6_heap (blk_set_ne (hf6.out.blk HAa.out) hne2 _) _ _ _ _ _ _) Try.underlying44 rfl (by kernel_rfl)) rfl
      (pdo_nil (a := ⟨0, true, 0, 0, 0, []⟩) (L' := delL L k) (does2_del HI.out) rfl (pstore_end (HP4.out.fr hf6.out) (((hff.out.trans hf3.out).trans HFa.out).trans hf6.out) HP.out.lt hown6.out (Nat.le_trans hs3.out HFa.out.size) (hlen _ HI.out) (by rw [delL_is HI.out]; simp) (up_del HP.out.up k) (fun p hp => HP.out.inU p ((mem_del HP.out.up k p).1 hp).2) _ _ _ _ _ _ _))

end Go.Proofs.Ytjannhphmemenaa
