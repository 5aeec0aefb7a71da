/- The walks of the reference of layer 23: Do's range (printed by genrng.py). -/
import Derived.Test.YtjannhphmemenaaRefK
namespace Go.Proofs.Ytjannhphmemenaa
set_option maxRecDepth 100000
open Go.RowKit Go.Inc Go.Jud Go.Maps Go.Sort

theorem does7 (most : Int) (L : List Pr) (k v : Int) : does most L ⟨7, k, v⟩ = (⟨0, false, 0, 0, 0, span L k v⟩, L) := rfl
theorem drop_get (L : List Pr) (r i : Nat) : (L.drop r)[i]? = L[r + i]? := by simp
theorem pdo_range_end {w w4 wr : World} {g c c5 gT : Nat} {A A5 : Option Addr} {most : Int} {L : List Pr} {k v : Int} {n : Nat} (hP : IsP w g A c most L) (hf : Fr w w4) (hm : Mv (one1 gT) w4 wr) (hgT : w.heap.size + 1 < gT)
    (ho : Own wr w4.heap.size 55 2 A5 n c5 ((span L k v).flatMap pcells)) (hn : n = (span L k v).length) (h4 : w.heap.size + 2 ≤ w4.heap.size) (y0 y1 y2 y3 y4 y5 : Value) :
    PDoPost most L ⟨7, k, v⟩ g A w (.returned (.agg #[.int .i64 0, .bool false, .int .u64 0, .int .u64 0, .int .i64 0, .slice A5 n c5])) (set6 wr (w.heap.size + 1) y0 y1 y2 y3 y4 y5) := by
  have hl := ho.lt
  have hff : Fr w wr := ((Mv.of_fr (S := none0) hf).trans hm (fun i h => .inr (by rw [show i = gT from h]; omega))).fr0
  refine ⟨⟨A5, c5, by rw [does7, hn]; rfl, ?_⟩, by rw [does7]; exact ppost_same6 hP hff (by omega) _ _ _ _ _ _⟩
  rw [does7]
  show Own _ _ _ _ _ (span L k v).length _ _
  rw [← hn]
  exact (set6_own ho (fun e => by have := (hl _ e).1; omega) _ _ _ _ _ _).mono (by omega)
set_option maxHeartbeats 2000000 in
theorem pdo_range_out (g c : Nat) (A : Option Addr) (most : Int) (L : List Pr) (k v : Int) (w : World) (hP : IsP w g A c most L) (hL : L.length ≤ 1073741824) (h1 : L.length ≤ rk L k) :
    Calls Try.prog 14 #[.pointer (some ⟨g, 0, none⟩), .agg #[.int .i64 7, .int .u64 k, .int .u64 v]] w (PDoPost most L ⟨7, k, v⟩ g A w) := by
  have hrl := rk_le L k
  have hltg := hP.lt
  have hltA := Lib.hid hP.ltA
  have HP := Lib.hid hP
  go_enter Try.func14, Try.ntmps14
  go_wp2_with fail
  refine (prank_calls g c _ most L k _ (HP.out.fr (fr2 w _ _)) (by omega)).mono ?_
  rintro e w2 ⟨rfl, hw2⟩
  have ha := alloc2_snd w (.cells #[.int .i64 7, .int .u64 k, .int .u64 v] 33) (.cells #[.int .i64 0, .bool false, .int .u64 0, .int .u64 0, .int .i64 0, .slice none 0 0] 44)
  have ho := alloc2_fst w (.cells #[.int .i64 7, .int .u64 k, .int .u64 v] 33) (.cells #[.int .i64 0, .bool false, .int .u64 0, .int .u64 0, .int .i64 0, .slice none 0 0] 44)
  have hff := Lib.hid (fr2 w (.cells #[.int .i64 7, .int .u64 k, .int .u64 v] 33) (.cells #[.int .i64 0, .bool false, .int .u64 0, .int .u64 0, .int .i64 0, .slice none 0 0] 44))
  rw [← hw2] at ha ho hff
  clear hw2
  obtain ⟨o0, o1, o2⟩ := op_cells ho
  have HA := Lib.hid ha
  have HO := Lib.hid ho
  have hs2 : Hid (w.heap.size + 2 ≤ w2.heap.size) := (Array.getElem?_eq_some_iff.1 ha).1
  clear ha ho
  have HP2 := Lib.hid (HP.out.fr hff.out)
  have c1 := HP2.out.c1
  have hz : decide (rk L k < L.length) = false := decide_eq_false (by omega)
  have hi : isAt L k = false := by
    unfold isAt
    rw [List.getElem?_eq_none h1]
  have HI := Lib.hid hi
  clear h1 hi hP
  go_wp2_with fail
  go_quiet (fail)
  obtain ⟨w3, hw3⟩ : ∃ w3, w3 = w2.drewN nq := ⟨_, rfl⟩
  rw [← hw3]
  have hf3 : Hid (Fr w2 w3) := by rw [hw3]; exact fr_drewN _ _
  clear hw3
  have HA3 := Lib.hid (hf3.out.blk HA.out)
  obtain ⟨q0, q1, q2⟩ := op_cells (hf3.out.blk HO.out)
  have HP3 := Lib.hid (HP2.out.fr hf3.out)
  have d1 := HP3.out.c1
  have hs3 : Hid (w.heap.size + 2 ≤ w3.heap.size) := Nat.le_trans hs2.out hf3.out.size
  have hf4 : ∀ o, Fr w3 (w3.alloc o) := fun o => (Fr.refl w3).alloc o
  have q0a := fun o => (hf4 o).cell q0
  have q1a := fun o => (hf4 o).cell q1
  have q2a := fun o => (hf4 o).cell q2
  have d1a := fun o => (hf4 o).cell d1
  have HA4 : Hid (∀ o, (w3.alloc o).heap[w.heap.size + 1]? = _) := fun o => (hf4 o).blk HA3.out
  have z0 := fun o => (ans_cells (HA4.out o)).1
  have z1 := fun o => (ans_cells (HA4.out o)).2.1
  have z2 := fun o => (ans_cells (HA4.out o)).2.2.1
  have z3 := fun o => (ans_cells (HA4.out o)).2.2.2.1
  have z4 := fun o => (ans_cells (HA4.out o)).2.2.2.2.1
  have z5 := fun o => (ans_cells (HA4.out o)).2.2.2.2.2.1
  have y0 := fun o => (ans_cells (HA4.out o)).2.2.2.2.2.2.1
  have y1 := fun o => (ans_cells (HA4.out o)).2.2.2.2.2.2.2.1
  have y2 := fun o => (ans_cells (HA4.out o)).2.2.2.2.2.2.2.2.1
  have y3 := fun o => (ans_cells (HA4.out o)).2.2.2.2.2.2.2.2.2.1
  have y4 := fun o => (ans_cells (HA4.out o)).2.2.2.2.2.2.2.2.2.2.1
  have y5 := fun o => (ans_cells (HA4.out o)).2.2.2.2.2.2.2.2.2.2.2
  have HF4 := Lib.hid hf4
  clear hf4
  go_wp2_with fail
  obtain ⟨w4, hw4⟩ : ∃ w4, w4 = w3.alloc (.cells #[.int .i64 0, .bool false, .int .u64 0, .int .u64 0, .int .i64 0, .slice none 0 0] 44) := ⟨_, rfl⟩
  rw [← hw4]
  have HFa : Hid (Fr w3 w4) := by rw [hw4]; exact HF4.out _
  have HAa : Hid (w4.heap[w.heap.size + 1]? = some (.cells #[.int .i64 0, .bool false, .int .u64 0, .int .u64 0, .int .i64 0, .slice none 0 0] 44)) := by rw [hw4]; exact HA4.out _
  have HTa : Hid (w4.heap[w3.heap.size]? = some (.cells #[.int .i64 0, .bool false, .int .u64 0, .int .u64 0, .int .i64 0, .slice none 0 0] 44)) := by rw [hw4]; exact heap_alloc_new w3 _
  have HOa : Hid (w4.heap[w.heap.size]? = some (.cells #[.int .i64 7, .int .u64 k, .int .u64 v] 33)) := by rw [hw4]; exact (HF4.out _).blk (hf3.out.blk HO.out)
  have hz4 : Hid (w4.heap.size = w3.heap.size + 1) := by rw [hw4]; simp [Hid]
  clear hw4 z0 z1 z2 z3 z4 z5 y0 y1 y2 y3 y4 y5 q0a q1a q2a d1a q0 q1 q2 d1 o0 o1 o2 c1
  have HP4 := Lib.hid (HP3.out.fr HFa.out)
  have HGA : Hid (∀ i, ablk A = some i → i ≠ w3.heap.size) := fun i hi e => by have h1 := hltA.out i hi; have h2 := hs3.out; omega
  have hne : g ≠ w3.heap.size := by have := hs3.out; omega
  have hneo : w.heap.size ≠ w3.heap.size := by have := hs3.out; omega
  have hneo2 : w3.heap.size ≠ w.heap.size + 1 := by have := hs3.out; omega
  obtain ⟨R, hR⟩ : ∃ R, R = L.drop (rk L k) := ⟨_, rfl⟩
  have hsp : Hid (span L k v = R.takeWhile (fun p => decide (p.1 ≤ v))) := by rw [Hid, hR]; rfl
  have hRL : Hid (∀ i, R[i]? = L[rk L k + i]?) := fun i => by rw [hR]; exact drop_get _ _ _
  have hRn : Hid (R.length = L.length - rk L k) := by rw [Hid, hR]; simp
  have HRK := Lib.hid hrl
  clear hR hrl hltg
  go_loopw [5] (fun vn wr => ∃ (n i : Nat) (A5 : Option Addr) (c5 : Nat), vn = .int .i64 n ∧ Hid (n = rk L k + i) ∧ n ≤ L.length ∧ Hid (wr.heap[w3.heap.size]? = some (.cells #[.int .i64 0, .bool false, .int .u64 0, .int .u64 0, .int .i64 0, .slice A5 i c5] 44)) ∧ Hid (Own wr w4.heap.size 55 2 A5 i c5 ((R.take i).flatMap pcells)) ∧ Hid (Mv (one1 w3.heap.size) w4 wr) ∧
      Hid (∀ t (_ : t < i) p, R[t]? = some p → decide (p.1 ≤ v) = true)) (fun vn _ => L.length - (intOf vn).toNat)
  case atStart => exact ⟨rk L k, 0, none, 0, rfl, rfl, HRK.out, HTa.out, Own.nil _ _ _ _, Mv.refl _ _, fun t ht => by omega⟩
  case round =>
    obtain ⟨n, i, A5, c5, rfl, hni, hn, hT, ho, hm, hall⟩ := hrel
    have HPr := Lib.hid (HP4.out.mv hm.out (fun e => hne e) (fun i hi e => HGA.out i hi e))
    have e1 := HPr.out.c1
    obtain ⟨-, -, r2⟩ := op_cells (hm.out.blk HOa.out (fun e => hneo e))
    have HAr := Lib.hid (hm.out.blk HAa.out (fun e => hneo2 e.symm))
    have FIN : Hid ((∀ p, R[i]? = some p → decide (p.1 ≤ v) = false) → span L k v = R.take i) := fun h => by
      rw [hsp.out]
      exact takeWhile_split _ R i (fun t ht p hp => hall.out t ht p hp) h
    by_cases hlt : n < L.length
    · exfalso
      have h1 := of_decide_eq_false hz
      have h2 := hni.out
      omega
    · have hT2 := FIN.out (fun q hq => by have := hni.out; rw [hRL.out, List.getElem?_eq_none (by omega)] at hq; cases hq)
      have hlen : Hid (i = (span L k v).length) := by rw [Hid, hT2, List.length_take, hRn.out]; have := hni.out; omega
      have ho6 : Hid (Own wr w4.heap.size 55 2 A5 i c5 ((span L k v).flatMap pcells)) := by rw [Hid, hT2]; exact ho.out
      have hnz : decide (n < L.length) = false := decide_eq_false hlt
      clear hT2 hn hlt FIN ho hall
      go_wp2_with fail
      go_quiet (fail)
      obtain ⟨w5, hw5⟩ : ∃ w5, w5 = wr.drewN nq := ⟨_, rfl⟩
      rw [← hw5]
      have hf5 : Hid (Fr wr w5) := by rw [hw5]; exact fr_drewN _ _
      clear hw5
      have HA5 := Lib.hid (hf5.out.blk HAr.out)
      obtain ⟨t0, t1, t2, t3, t4, t5, u0, u1, u2, u3, u4, u5⟩ := ans_cells (hf5.out.blk hT.out)
      obtain ⟨b0, b1, b2, b3, b4, b5, g0, g1, g2, g3, g4, g5⟩ := ans_cells HA5.out
      go_wp2_with fail
      exact bodyPost_ret (results_cell_row rfl _ _ (w.heap.size + 1) _ _ (0, 0) _ rfl (set6_heap HA5.out _ _ _ _ _ _) Try.underlying44 rfl (by kernel_rfl)) rfl
        (pdo_range_end HP.out ((hff.out.trans hf3.out).trans HFa.out) (hm.out.then hf5.out) hs3.out (ho6.out.fr hf5.out) hlen.out (by have := hs3.out; have := hz4.out; omega) _ _ _ _ _ _)

set_option maxHeartbeats 2000000 in
theorem pdo_range_is (g c : Nat) (A : Option Addr) (most : Int) (L : List Pr) (k v : Int) (w : World) (hP : IsP w g A c most L) (hL : L.length ≤ 1073741824) (h1 : rk L k < L.length) (hi : isAt L k = true) :
    Calls Try.prog 14 #[.pointer (some ⟨g, 0, none⟩), .agg #[.int .i64 7, .int .u64 k, .int .u64 v]] w (PDoPost most L ⟨7, k, v⟩ g A w) := by
  have hrl := rk_le L k
  have hltg := hP.lt
  have hltA := Lib.hid hP.ltA
  have HP := Lib.hid hP
  go_enter Try.func14, Try.ntmps14
  go_wp2_with fail
  refine (prank_calls g c _ most L k _ (HP.out.fr (fr2 w _ _)) (by omega)).mono ?_
  rintro e w2 ⟨rfl, hw2⟩
  have ha := alloc2_snd w (.cells #[.int .i64 7, .int .u64 k, .int .u64 v] 33) (.cells #[.int .i64 0, .bool false, .int .u64 0, .int .u64 0, .int .i64 0, .slice none 0 0] 44)
  have ho := alloc2_fst w (.cells #[.int .i64 7, .int .u64 k, .int .u64 v] 33) (.cells #[.int .i64 0, .bool false, .int .u64 0, .int .u64 0, .int .i64 0, .slice none 0 0] 44)
  have hff := Lib.hid (fr2 w (.cells #[.int .i64 7, .int .u64 k, .int .u64 v] 33) (.cells #[.int .i64 0, .bool false, .int .u64 0, .int .u64 0, .int .i64 0, .slice none 0 0] 44))
  rw [← hw2] at ha ho hff
  clear hw2
  obtain ⟨o0, o1, o2⟩ := op_cells ho
  have HA := Lib.hid ha
  have HO := Lib.hid ho
  have hs2 : Hid (w.heap.size + 2 ≤ w2.heap.size) := (Array.getElem?_eq_some_iff.1 ha).1
  clear ha ho
  have HP2 := Lib.hid (HP.out.fr hff.out)
  have c1 := HP2.out.c1
  obtain ⟨gA, rfl, hc⟩ := HP2.out.cells (by omega)
  have HC := Lib.hid hc
  have hck := (hc _ h1).1
  have hz : (rk L k : Int) < (L.length : Int) := by omega
  obtain ⟨G, hG⟩ : ∃ G : Int, G = (L.getD (rk L k) (0, 0)).1 := ⟨_, rfl⟩
  rw [← hG] at hck
  have hgk : (G == k) = isAt L k := by
    unfold isAt
    have e : L[rk L k]? = some (L.getD (rk L k) (0, 0)) := by simp [h1]
    rw [e, hG]
  rw [hi] at hgk
  have HI := Lib.hid hi
  have HG := Lib.hid hG
  obtain ⟨V, hV⟩ : ∃ V : Int, V = (L.getD (rk L k) (0, 0)).2 := ⟨_, rfl⟩
  have HV := Lib.hid hV
  clear hc hG hi hP hV
  go_wp2_with fail
  go_quiet (fail)
  obtain ⟨w3, hw3⟩ : ∃ w3, w3 = w2.drewN nq := ⟨_, rfl⟩
  rw [← hw3]
  have hf3 : Hid (Fr w2 w3) := by rw [hw3]; exact fr_drewN _ _
  clear hw3
  have HA3 := Lib.hid (hf3.out.blk HA.out)
  obtain ⟨q0, q1, q2⟩ := op_cells (hf3.out.blk HO.out)
  have HP3 := Lib.hid (HP2.out.fr hf3.out)
  have d1 := HP3.out.c1
  have hs3 : Hid (w.heap.size + 2 ≤ w3.heap.size) := Nat.le_trans hs2.out hf3.out.size
  have hf4 : ∀ o, Fr w3 (w3.alloc o) := fun o => (Fr.refl w3).alloc o
  have q0a := fun o => (hf4 o).cell q0
  have q1a := fun o => (hf4 o).cell q1
  have q2a := fun o => (hf4 o).cell q2
  have d1a := fun o => (hf4 o).cell d1
  have hcv : ∀ o, (w3.alloc o).cell? ⟨gA, rk L k * 2 + 1, none⟩ = some (.int .u64 V) := fun o => by rw [HV.out]; exact (hf4 o).cell (hf3.out.cell (HC.out _ h1).2)
  have hckv : ∀ o, (w3.alloc o).cell? ⟨gA, rk L k * 2, none⟩ = some (.int .u64 G) := fun o => by rw [HG.out]; exact (hf4 o).cell (hf3.out.cell (HC.out _ h1).1)
  have HA4 : Hid (∀ o, (w3.alloc o).heap[w.heap.size + 1]? = _) := fun o => (hf4 o).blk HA3.out
  have z0 := fun o => (ans_cells (HA4.out o)).1
  have z1 := fun o => (ans_cells (HA4.out o)).2.1
  have z2 := fun o => (ans_cells (HA4.out o)).2.2.1
  have z3 := fun o => (ans_cells (HA4.out o)).2.2.2.1
  have z4 := fun o => (ans_cells (HA4.out o)).2.2.2.2.1
  have z5 := fun o => (ans_cells (HA4.out o)).2.2.2.2.2.1
  have y0 := fun o => (ans_cells (HA4.out o)).2.2.2.2.2.2.1
  have y1 := fun o => (ans_cells (HA4.out o)).2.2.2.2.2.2.2.1
  have y2 := fun o => (ans_cells (HA4.out o)).2.2.2.2.2.2.2.2.1
  have y3 := fun o => (ans_cells (HA4.out o)).2.2.2.2.2.2.2.2.2.1
  have y4 := fun o => (ans_cells (HA4.out o)).2.2.2.2.2.2.2.2.2.2.1
  have y5 := fun o => (ans_cells (HA4.out o)).2.2.2.2.2.2.2.2.2.2.2
  have HF4 := Lib.hid hf4
  clear hf4
  go_wp2_with fail
  obtain ⟨w4, hw4⟩ : ∃ w4, w4 = w3.alloc (.cells #[.int .i64 0, .bool false, .int .u64 0, .int .u64 0, .int .i64 0, .slice none 0 0] 44) := ⟨_, rfl⟩
  rw [← hw4]
  have HFa : Hid (Fr w3 w4) := by rw [hw4]; exact HF4.out _
  have HAa : Hid (w4.heap[w.heap.size + 1]? = some (.cells #[.int .i64 0, .bool false, .int .u64 0, .int .u64 0, .int .i64 0, .slice none 0 0] 44)) := by rw [hw4]; exact HA4.out _
  have HTa : Hid (w4.heap[w3.heap.size]? = some (.cells #[.int .i64 0, .bool false, .int .u64 0, .int .u64 0, .int .i64 0, .slice none 0 0] 44)) := by rw [hw4]; exact heap_alloc_new w3 _
  have HOa : Hid (w4.heap[w.heap.size]? = some (.cells #[.int .i64 7, .int .u64 k, .int .u64 v] 33)) := by rw [hw4]; exact (HF4.out _).blk (hf3.out.blk HO.out)
  have hz4 : Hid (w4.heap.size = w3.heap.size + 1) := by rw [hw4]; simp [Hid]
  clear hw4 z0 z1 z2 z3 z4 z5 y0 y1 y2 y3 y4 y5 q0a q1a q2a d1a q0 q1 q2 d1 o0 o1 o2 c1 hcv hckv hck
  have HP4 := Lib.hid (HP3.out.fr HFa.out)
  have HGA : Hid (∀ i, ablk (some ⟨gA, 0, none⟩) = some i → i ≠ w3.heap.size) := fun i hi e => by have h1 := hltA.out i hi; have h2 := hs3.out; omega
  have hne : g ≠ w3.heap.size := by have := hs3.out; omega
  have hneo : w.heap.size ≠ w3.heap.size := by have := hs3.out; omega
  have hneo2 : w3.heap.size ≠ w.heap.size + 1 := by have := hs3.out; omega
  obtain ⟨R, hR⟩ : ∃ R, R = L.drop (rk L k) := ⟨_, rfl⟩
  have hsp : Hid (span L k v = R.takeWhile (fun p => decide (p.1 ≤ v))) := by rw [Hid, hR]; rfl
  have hRL : Hid (∀ i, R[i]? = L[rk L k + i]?) := fun i => by rw [hR]; exact drop_get _ _ _
  have hRn : Hid (R.length = L.length - rk L k) := by rw [Hid, hR]; simp
  have HRK := Lib.hid hrl
  clear hR hrl hltg
  go_loopw [5] (fun vn wr => ∃ (n i : Nat) (A5 : Option Addr) (c5 : Nat), vn = .int .i64 n ∧ Hid (n = rk L k + i) ∧ n ≤ L.length ∧ Hid (wr.heap[w3.heap.size]? = some (.cells #[.int .i64 0, .bool false, .int .u64 0, .int .u64 0, .int .i64 0, .slice A5 i c5] 44)) ∧ Hid (Own wr w4.heap.size 55 2 A5 i c5 ((R.take i).flatMap pcells)) ∧ Hid (Mv (one1 w3.heap.size) w4 wr) ∧
      Hid (∀ t (_ : t < i) p, R[t]? = some p → decide (p.1 ≤ v) = true)) (fun vn _ => L.length - (intOf vn).toNat)
  case atStart => exact ⟨rk L k, 0, none, 0, rfl, rfl, HRK.out, HTa.out, Own.nil _ _ _ _, Mv.refl _ _, fun t ht => by omega⟩
  case round =>
    obtain ⟨n, i, A5, c5, rfl, hni, hn, hT, ho, hm, hall⟩ := hrel
    have HPr := Lib.hid (HP4.out.mv hm.out (fun e => hne e) (fun i hi e => HGA.out i hi e))
    have e1 := HPr.out.c1
    obtain ⟨-, -, r2⟩ := op_cells (hm.out.blk HOa.out (fun e => hneo e))
    have HAr := Lib.hid (hm.out.blk HAa.out (fun e => hneo2 e.symm))
    have FIN : Hid ((∀ p, R[i]? = some p → decide (p.1 ≤ v) = false) → span L k v = R.take i) := fun h => by
      rw [hsp.out]
      exact takeWhile_split _ R i (fun t ht p hp => hall.out t ht p hp) h
    by_cases hlt : n < L.length
    · obtain ⟨p, hp⟩ : ∃ p, L[n]? = some p := ⟨_, List.getElem?_eq_getElem hlt⟩
      have hpR : Hid (R[i]? = some p) := by rw [Hid, hRL.out, ← hni.out]; exact hp
      have hgd : L.getD n (0, 0) = p := by rw [List.getD_eq_getElem?_getD, hp]; rfl
      have hcp : wr.cell? ⟨gA, n * 2, none⟩ = some (.int .u64 p.1) := by rw [← hgd]; exact hm.out.cell (HFa.out.cell (hf3.out.cell (HC.out n hlt).1)) (fun e => HGA.out gA rfl e)
      have hcv : wr.cell? ⟨gA, n * 2 + 1, none⟩ = some (.int .u64 p.2) := by rw [← hgd]; exact hm.out.cell (HFa.out.cell (hf3.out.cell (HC.out n hlt).2)) (fun e => HGA.out gA rfl e)
      have hnz : (n : Int) < (L.length : Int) := by omega
      have hnz2 : decide (n < L.length) = true := decide_eq_true hlt
      clear hp hgd
      by_cases hv : p.1 ≤ v
      · have hvz : decide (p.1 ≤ v) = true := decide_eq_true hv
        have hll : Hid (i < 1073741824) := by have := hni.out; show i < _; omega
        go_wp2_with fail
        go_quiet (fail)
        obtain ⟨w5, hw5⟩ : ∃ w5, w5 = wr.drewN nq := ⟨_, rfl⟩
        rw [← hw5]
        have hf5 : Hid (Fr wr w5) := by rw [hw5]; exact fr_drewN _ _
        clear hw5
        have HP5 := Lib.hid (HPr.out.fr hf5.out)
        have HT5 := Lib.hid (hf5.out.blk hT.out)
        have c1x := HP5.out.c1
        have c5x := (ans_cells HT5.out).2.2.2.2.2.1
        have u5x := (ans_cells HT5.out).2.2.2.2.2.2.2.2.2.2.2
        have hcp5 := hf5.out.cell hcp
        have hcv5 := hf5.out.cell hcv
        have c5a := ((Fr.refl w5).alloc (.cells #[.int .u64 p.1, .int .u64 p.2] 55)).cell c5x
        have c1a := ((Fr.refl w5).alloc (.cells #[.int .u64 p.1, .int .u64 p.2] 55)).cell c1x
        clear e1 r2 hcp hcv
        go_wp2_with fail
        go_region_law (first
          | (refine step_app rfl (.tmp 152) (.tmp 160) 42 rfl 55 (.agg #[.int .u64 0, .int .u64 0]) 2 16 Try.underlying42 info_pair rfl (by omega) (by omega) w4.heap.size A5 i c5 ((R.take i).flatMap pcells) (some ⟨w5.heap.size, 0, none⟩) 1 1 (pcells p) ?_ ?_
              ((ho.out.fr hf5.out).fr (((Fr.refl w5).drew).alloc _)) rfl (RdC.blk (Blk.new w5.drew _ _)) (by simpa using pcells_one [p]) (by have := hll.out; omega) (by have := hm.out.size; have := hf5.out.size; simp; omega) ?_
             exact rfl
             exact rfl
             intro A6 c6 w6 hown6 hgr6 hat6
             have hm6 : Hid (Mv (one1 w3.heap.size) w4 w6) := ((hm.out.then hf5.out).then (((Fr.refl w5).drew).alloc _)).grown hgr6.out (fun j hj => .inr (ho.out.lt j hj).1)
             have hT6 : Hid (w6.heap[w3.heap.size]? = some (.cells #[.int .i64 0, .bool false, .int .u64 0, .int .u64 0, .int .i64 0, .slice A5 i c5] 44)) :=
               (hgr6.out.block w3.heap.size (by have := hm.out.size; have := hf5.out.size; have := hz4.out; simp; omega) (fun e => by have := (ho.out.lt _ e.symm).1; have := hz4.out; omega)).trans ((((Fr.refl w5).drew).alloc _).blk HT5.out)
             have u6 := (ans_cells hT6.out).2.2.2.2.2.2.2.2.2.2.2
             have c6x := (ans_cells hT6.out).2.2.2.2.2.1))
        all_goals (go_wp2_with fail)
        all_goals
          refine ⟨⟨n + 1, i + 1, A6, c6, by simp, by have := hni.out; show _ = _; omega, by omega, ?_, ?_, hm6.out.set (p := ⟨w3.heap.size, 5, none⟩) (.inl rfl) _, ?_⟩, by simp [intOf]; omega⟩
          · have := blk_set hT6.out 5 (.slice A6 (i + 1) c6)
            simpa [Hid] using this
          · have e : R.take (i + 1) = R.take i ++ [p] := by
              rw [List.take_add_one, hpR.out]; rfl
            rw [Hid, e, List.flatMap_append]
            have h9 := (hown6.out.mv (S := one1 w3.heap.size) ((Mv.refl _ _).set (p := ⟨w3.heap.size, 5, none⟩) (.inl (show one1 w3.heap.size w3.heap.size from rfl)) (.slice A6 (i + 1) c6)) (fun j hj e => by have h8 : j = w3.heap.size := e; have := (hown6.out.lt j hj).1; have := hz4.out; omega))
            simpa using h9
          · intro t ht q hq
            rcases Nat.lt_or_ge t i with h | h
            · exact hall.out t h q hq
            · have : t = i := by omega
              subst this
              have e := hpR.out
              rw [hq] at e
              injection e with e
              subst e; exact decide_eq_true hv
      · have hvz : decide (p.1 ≤ v) = false := decide_eq_false hv
        have hT2 := FIN.out (fun q hq => by
          have e := hpR.out
          rw [hq] at e
          injection e with e
          subst e; exact decide_eq_false hv)
        have hlen : Hid (i = (span L k v).length) := by rw [Hid, hT2, List.length_take, hRn.out]; have := hni.out; omega
        have ho6 : Hid (Own wr w4.heap.size 55 2 A5 i c5 ((span L k v).flatMap pcells)) := by rw [Hid, hT2]; exact ho.out
        clear hT2 hv FIN ho hall
        go_wp2_with fail
        go_quiet (fail)
        obtain ⟨w5, hw5⟩ : ∃ w5, w5 = wr.drewN nq := ⟨_, rfl⟩
        rw [← hw5]
        have hf5 : Hid (Fr wr w5) := by rw [hw5]; exact fr_drewN _ _
        clear hw5
        have HA5 := Lib.hid (hf5.out.blk HAr.out)
        obtain ⟨t0, t1, t2, t3, t4, t5, u0, u1, u2, u3, u4, u5⟩ := ans_cells (hf5.out.blk hT.out)
        obtain ⟨b0, b1, b2, b3, b4, b5, g0, g1, g2, g3, g4, g5⟩ := ans_cells HA5.out
        go_wp2_with fail
        exact bodyPost_ret (results_cell_row rfl _ _ (w.heap.size + 1) _ _ (0, 0) _ rfl (set6_heap HA5.out _ _ _ _ _ _) Try.underlying44 rfl (by kernel_rfl)) rfl
          (pdo_range_end HP.out ((hff.out.trans hf3.out).trans HFa.out) (hm.out.then hf5.out) hs3.out (ho6.out.fr hf5.out) hlen.out (by have := hs3.out; have := hz4.out; omega) _ _ _ _ _ _)
    · have hT2 := FIN.out (fun q hq => by have := hni.out; rw [hRL.out, List.getElem?_eq_none (by omega)] at hq; cases hq)
      have hlen : Hid (i = (span L k v).length) := by rw [Hid, hT2, List.length_take, hRn.out]; have := hni.out; omega
      have ho6 : Hid (Own wr w4.heap.size 55 2 A5 i c5 ((span L k v).flatMap pcells)) := by rw [Hid, hT2]; exact ho.out
      have hnz : decide (n < L.length) = false := decide_eq_false hlt
      clear hT2 hn hlt FIN ho hall
      go_wp2_with fail
      go_quiet (fail)
      obtain ⟨w5, hw5⟩ : ∃ w5, w5 = wr.drewN nq := ⟨_, rfl⟩
      rw [← hw5]
      have hf5 : Hid (Fr wr w5) := by rw [hw5]; exact fr_drewN _ _
      clear hw5
      have HA5 := Lib.hid (hf5.out.blk HAr.out)
      obtain ⟨t0, t1, t2, t3, t4, t5, u0, u1, u2, u3, u4, u5⟩ := ans_cells (hf5.out.blk hT.out)
      obtain ⟨b0, b1, b2, b3, b4, b5, g0, g1, g2, g3, g4, g5⟩ := ans_cells HA5.out
      go_wp2_with fail
      exact bodyPost_ret (results_cell_row rfl _ _ (w.heap.size + 1) _ _ (0, 0) _ rfl (set6_heap HA5.out _ _ _ _ _ _) Try.underlying44 rfl (by kernel_rfl)) rfl
        (pdo_range_end HP.out ((hff.out.trans hf3.out).trans HFa.out) (hm.out.then hf5.out) hs3.out (ho6.out.fr hf5.out) hlen.out (by have := hs3.out; have := hz4.out; omega) _ _ _ _ _ _)

set_option maxHeartbeats 2000000 in
theorem pdo_range_no (g c : Nat) (A : Option Addr) (most : Int) (L : List Pr) (k v : Int) (w : World) (hP : IsP w g A c most L) (hL : L.length ≤ 1073741824) (h1 : rk L k < L.length) (hi : isAt L k = false) :
    Calls Try.prog 14 #[.pointer (some ⟨g, 0, none⟩), .agg #[.int .i64 7, .int .u64 k, .int .u64 v]] w (PDoPost most L ⟨7, k, v⟩ g A w) := by
  have hrl := rk_le L k
  have hltg := hP.lt
  have hltA := Lib.hid hP.ltA
  have HP := Lib.hid hP
  go_enter Try.func14, Try.ntmps14
  go_wp2_with fail
  refine (prank_calls g c _ most L k _ (HP.out.fr (fr2 w _ _)) (by omega)).mono ?_
  rintro e w2 ⟨rfl, hw2⟩
  have ha := alloc2_snd w (.cells #[.int .i64 7, .int .u64 k, .int .u64 v] 33) (.cells #[.int .i64 0, .bool false, .int .u64 0, .int .u64 0, .int .i64 0, .slice none 0 0] 44)
  have ho := alloc2_fst w (.cells #[.int .i64 7, .int .u64 k, .int .u64 v] 33) (.cells #[.int .i64 0, .bool false, .int .u64 0, .int .u64 0, .int .i64 0, .slice none 0 0] 44)
  have hff := Lib.hid (fr2 w (.cells #[.int .i64 7, .int .u64 k, .int .u64 v] 33) (.cells #[.int .i64 0, .bool false, .int .u64 0, .int .u64 0, .int .i64 0, .slice none 0 0] 44))
  rw [← hw2] at ha ho hff
  clear hw2
  obtain ⟨o0, o1, o2⟩ := op_cells ho
  have HA := Lib.hid ha
  have HO := Lib.hid ho
  have hs2 : Hid (w.heap.size + 2 ≤ w2.heap.size) := (Array.getElem?_eq_some_iff.1 ha).1
  clear ha ho
  have HP2 := Lib.hid (HP.out.fr hff.out)
  have c1 := HP2.out.c1
  obtain ⟨gA, rfl, hc⟩ := HP2.out.cells (by omega)
  have HC := Lib.hid hc
  have hck := (hc _ h1).1
  have hz : (rk L k : Int) < (L.length : Int) := by omega
  obtain ⟨G, hG⟩ : ∃ G : Int, G = (L.getD (rk L k) (0, 0)).1 := ⟨_, rfl⟩
  rw [← hG] at hck
  have hgk : (G == k) = isAt L k := by
    unfold isAt
    have e : L[rk L k]? = some (L.getD (rk L k) (0, 0)) := by simp [h1]
    rw [e, hG]
  rw [hi] at hgk
  have HI := Lib.hid hi
  have HG := Lib.hid hG
  obtain ⟨V, hV⟩ : ∃ V : Int, V = (L.getD (rk L k) (0, 0)).2 := ⟨_, rfl⟩
  have HV := Lib.hid hV
  clear hc hG hi hP hV
  go_wp2_with fail
  go_quiet (fail)
  obtain ⟨w3, hw3⟩ : ∃ w3, w3 = w2.drewN nq := ⟨_, rfl⟩
  rw [← hw3]
  have hf3 : Hid (Fr w2 w3) := by rw [hw3]; exact fr_drewN _ _
  clear hw3
  have HA3 := Lib.hid (hf3.out.blk HA.out)
  obtain ⟨q0, q1, q2⟩ := op_cells (hf3.out.blk HO.out)
  have HP3 := Lib.hid (HP2.out.fr hf3.out)
  have d1 := HP3.out.c1
  have hs3 : Hid (w.heap.size + 2 ≤ w3.heap.size) := Nat.le_trans hs2.out hf3.out.size
  have hf4 : ∀ o, Fr w3 (w3.alloc o) := fun o => (Fr.refl w3).alloc o
  have q0a := fun o => (hf4 o).cell q0
  have q1a := fun o => (hf4 o).cell q1
  have q2a := fun o => (hf4 o).cell q2
  have d1a := fun o => (hf4 o).cell d1
  have hcv : ∀ o, (w3.alloc o).cell? ⟨gA, rk L k * 2 + 1, none⟩ = some (.int .u64 V) := fun o => by rw [HV.out]; exact (hf4 o).cell (hf3.out.cell (HC.out _ h1).2)
  have hckv : ∀ o, (w3.alloc o).cell? ⟨gA, rk L k * 2, none⟩ = some (.int .u64 G) := fun o => by rw [HG.out]; exact (hf4 o).cell (hf3.out.cell (HC.out _ h1).1)
  have HA4 : Hid (∀ o, (w3.alloc o).heap[w.heap.size + 1]? = _) := fun o => (hf4 o).blk HA3.out
  have z0 := fun o => (ans_cells (HA4.out o)).1
  have z1 := fun o => (ans_cells (HA4.out o)).2.1
  have z2 := fun o => (ans_cells (HA4.out o)).2.2.1
  have z3 := fun o => (ans_cells (HA4.out o)).2.2.2.1
  have z4 := fun o => (ans_cells (HA4.out o)).2.2.2.2.1
  have z5 := fun o => (ans_cells (HA4.out o)).2.2.2.2.2.1
  have y0 := fun o => (ans_cells (HA4.out o)).2.2.2.2.2.2.1
  have y1 := fun o => (ans_cells (HA4.out o)).2.2.2.2.2.2.2.1
  have y2 := fun o => (ans_cells (HA4.out o)).2.2.2.2.2.2.2.2.1
  have y3 := fun o => (ans_cells (HA4.out o)).2.2.2.2.2.2.2.2.2.1
  have y4 := fun o => (ans_cells (HA4.out o)).2.2.2.2.2.2.2.2.2.2.1
  have y5 := fun o => (ans_cells (HA4.out o)).2.2.2.2.2.2.2.2.2.2.2
  have HF4 := Lib.hid hf4
  clear hf4
  go_wp2_with fail
  obtain ⟨w4, hw4⟩ : ∃ w4, w4 = w3.alloc (.cells #[.int .i64 0, .bool false, .int .u64 0, .int .u64 0, .int .i64 0, .slice none 0 0] 44) := ⟨_, rfl⟩
  rw [← hw4]
  have HFa : Hid (Fr w3 w4) := by rw [hw4]; exact HF4.out _
  have HAa : Hid (w4.heap[w.heap.size + 1]? = some (.cells #[.int .i64 0, .bool false, .int .u64 0, .int .u64 0, .int .i64 0, .slice none 0 0] 44)) := by rw [hw4]; exact HA4.out _
  have HTa : Hid (w4.heap[w3.heap.size]? = some (.cells #[.int .i64 0, .bool false, .int .u64 0, .int .u64 0, .int .i64 0, .slice none 0 0] 44)) := by rw [hw4]; exact heap_alloc_new w3 _
  have HOa : Hid (w4.heap[w.heap.size]? = some (.cells #[.int .i64 7, .int .u64 k, .int .u64 v] 33)) := by rw [hw4]; exact (HF4.out _).blk (hf3.out.blk HO.out)
  have hz4 : Hid (w4.heap.size = w3.heap.size + 1) := by rw [hw4]; simp [Hid]
  clear hw4 z0 z1 z2 z3 z4 z5 y0 y1 y2 y3 y4 y5 q0a q1a q2a d1a q0 q1 q2 d1 o0 o1 o2 c1 hcv hckv hck
  have HP4 := Lib.hid (HP3.out.fr HFa.out)
  have HGA : Hid (∀ i, ablk (some ⟨gA, 0, none⟩) = some i → i ≠ w3.heap.size) := fun i hi e => by have h1 := hltA.out i hi; have h2 := hs3.out; omega
  have hne : g ≠ w3.heap.size := by have := hs3.out; omega
  have hneo : w.heap.size ≠ w3.heap.size := by have := hs3.out; omega
  have hneo2 : w3.heap.size ≠ w.heap.size + 1 := by have := hs3.out; omega
  obtain ⟨R, hR⟩ : ∃ R, R = L.drop (rk L k) := ⟨_, rfl⟩
  have hsp : Hid (span L k v = R.takeWhile (fun p => decide (p.1 ≤ v))) := by rw [Hid, hR]; rfl
  have hRL : Hid (∀ i, R[i]? = L[rk L k + i]?) := fun i => by rw [hR]; exact drop_get _ _ _
  have hRn : Hid (R.length = L.length - rk L k) := by rw [Hid, hR]; simp
  have HRK := Lib.hid hrl
  clear hR hrl hltg
  go_loopw [5] (fun vn wr => ∃ (n i : Nat) (A5 : Option Addr) (c5 : Nat), vn = .int .i64 n ∧ Hid (n = rk L k + i) ∧ n ≤ L.length ∧ Hid (wr.heap[w3.heap.size]? = some (.cells #[.int .i64 0, .bool false, .int .u64 0, .int .u64 0, .int .i64 0, .slice A5 i c5] 44)) ∧ Hid (Own wr w4.heap.size 55 2 A5 i c5 ((R.take i).flatMap pcells)) ∧ Hid (Mv (one1 w3.heap.size) w4 wr) ∧
      Hid (∀ t (_ : t < i) p, R[t]? = some p → decide (p.1 ≤ v) = true)) (fun vn _ => L.length - (intOf vn).toNat)
  case atStart => exact ⟨rk L k, 0, none, 0, rfl, rfl, HRK.out, HTa.out, Own.nil _ _ _ _, Mv.refl _ _, fun t ht => by omega⟩
  case round =>
    obtain ⟨n, i, A5, c5, rfl, hni, hn, hT, ho, hm, hall⟩ := hrel
    have HPr := Lib.hid (HP4.out.mv hm.out (fun e => hne e) (fun i hi e => HGA.out i hi e))
    have e1 := HPr.out.c1
    obtain ⟨-, -, r2⟩ := op_cells (hm.out.blk HOa.out (fun e => hneo e))
    have HAr := Lib.hid (hm.out.blk HAa.out (fun e => hneo2 e.symm))
    have FIN : Hid ((∀ p, R[i]? = some p → decide (p.1 ≤ v) = false) → span L k v = R.take i) := fun h => by
      rw [hsp.out]
      exact takeWhile_split _ R i (fun t ht p hp => hall.out t ht p hp) h
    by_cases hlt : n < L.length
    · obtain ⟨p, hp⟩ : ∃ p, L[n]? = some p := ⟨_, List.getElem?_eq_getElem hlt⟩
      have hpR : Hid (R[i]? = some p) := by rw [Hid, hRL.out, ← hni.out]; exact hp
      have hgd : L.getD n (0, 0) = p := by rw [List.getD_eq_getElem?_getD, hp]; rfl
      have hcp : wr.cell? ⟨gA, n * 2, none⟩ = some (.int .u64 p.1) := by rw [← hgd]; exact hm.out.cell (HFa.out.cell (hf3.out.cell (HC.out n hlt).1)) (fun e => HGA.out gA rfl e)
      have hcv : wr.cell? ⟨gA, n * 2 + 1, none⟩ = some (.int .u64 p.2) := by rw [← hgd]; exact hm.out.cell (HFa.out.cell (hf3.out.cell (HC.out n hlt).2)) (fun e => HGA.out gA rfl e)
      have hnz : (n : Int) < (L.length : Int) := by omega
      have hnz2 : decide (n < L.length) = true := decide_eq_true hlt
      clear hp hgd
      by_cases hv : p.1 ≤ v
      · have hvz : decide (p.1 ≤ v) = true := decide_eq_true hv
        have hll : Hid (i < 1073741824) := by have := hni.out; show i < _; omega
        go_wp2_with fail
        go_quiet (fail)
        obtain ⟨w5, hw5⟩ : ∃ w5, w5 = wr.drewN nq := ⟨_, rfl⟩
        rw [← hw5]
        have hf5 : Hid (Fr wr w5) := by rw [hw5]; exact fr_drewN _ _
        clear hw5
        have HP5 := Lib.hid (HPr.out.fr hf5.out)
        have HT5 := Lib.hid (hf5.out.blk hT.out)
        have c1x := HP5.out.c1
        have c5x := (ans_cells HT5.out).2.2.2.2.2.1
        have u5x := (ans_cells HT5.out).2.2.2.2.2.2.2.2.2.2.2
        have hcp5 := hf5.out.cell hcp
        have hcv5 := hf5.out.cell hcv
        have c5a := ((Fr.refl w5).alloc (.cells #[.int .u64 p.1, .int .u64 p.2] 55)).cell c5x
        have c1a := ((Fr.refl w5).alloc (.cells #[.int .u64 p.1, .int .u64 p.2] 55)).cell c1x
        clear e1 r2 hcp hcv
        go_wp2_with fail
        go_region_law (first
          | (refine step_app rfl (.tmp 152) (.tmp 160) 42 rfl 55 (.agg #[.int .u64 0, .int .u64 0]) 2 16 Try.underlying42 info_pair rfl (by omega) (by omega) w4.heap.size A5 i c5 ((R.take i).flatMap pcells) (some ⟨w5.heap.size, 0, none⟩) 1 1 (pcells p) ?_ ?_
              ((ho.out.fr hf5.out).fr (((Fr.refl w5).drew).alloc _)) rfl (RdC.blk (Blk.new w5.drew _ _)) (by simpa using pcells_one [p]) (by have := hll.out; omega) (by have := hm.out.size; have := hf5.out.size; simp; omega) ?_
             exact rfl
             exact rfl
             intro A6 c6 w6 hown6 hgr6 hat6
             have hm6 : Hid (Mv (one1 w3.heap.size) w4 w6) := ((hm.out.then hf5.out).then (((Fr.refl w5).drew).alloc _)).grown hgr6.out (fun j hj => .inr (ho.out.lt j hj).1)
             have hT6 : Hid (w6.heap[w3.heap.size]? = some (.cells #[.int .i64 0, .bool false, .int .u64 0, .int .u64 0, .int .i64 0, .slice A5 i c5] 44)) :=
               (hgr6.out.block w3.heap.size (by have := hm.out.size; have := hf5.out.size; have := hz4.out; simp; omega) (fun e => by have := (ho.out.lt _ e.symm).1; have := hz4.out; omega)).trans ((((Fr.refl w5).drew).alloc _).blk HT5.out)
             have u6 := (ans_cells hT6.out).2.2.2.2.2.2.2.2.2.2.2
             have c6x := (ans_cells hT6.out).2.2.2.2.2.1))
        all_goals (go_wp2_with fail)
        all_goals
          refine ⟨⟨n + 1, i + 1, A6, c6, by simp, by have := hni.out; show _ = _; omega, by omega, ?_, ?_, hm6.out.set (p := ⟨w3.heap.size, 5, none⟩) (.inl rfl) _, ?_⟩, by simp [intOf]; omega⟩
          · have := blk_set hT6.out 5 (.slice A6 (i + 1) c6)
            simpa [Hid] using this
          · have e : R.take (i + 1) = R.take i ++ [p] := by
              rw [List.take_add_one, hpR.out]; rfl
            rw [Hid, e, List.flatMap_append]
            have h9 := (hown6.out.mv (S := one1 w3.heap.size) ((Mv.refl _ _).set (p := ⟨w3.heap.size, 5, none⟩) (.inl (show one1 w3.heap.size w3.heap.size from rfl)) (.slice A6 (i + 1) c6)) (fun j hj e => by have h8 : j = w3.heap.size := e; have := (hown6.out.lt j hj).1; have := hz4.out; omega))
            simpa using h9
          · intro t ht q hq
            rcases Nat.lt_or_ge t i with h | h
            · exact hall.out t h q hq
            · have : t = i := by omega
              subst this
              have e := hpR.out
              rw [hq] at e
              injection e with e
              subst e; exact decide_eq_true hv
      · have hvz : decide (p.1 ≤ v) = false := decide_eq_false hv
        have hT2 := FIN.out (fun q hq => by
          have e := hpR.out
          rw [hq] at e
          injection e with e
          subst e; exact decide_eq_false hv)
        have hlen : Hid (i = (span L k v).length) := by rw [Hid, hT2, List.length_take, hRn.out]; have := hni.out; omega
        have ho6 : Hid (Own wr w4.heap.size 55 2 A5 i c5 ((span L k v).flatMap pcells)) := by rw [Hid, hT2]; exact ho.out
        clear hT2 hv FIN ho hall
        go_wp2_with fail
        go_quiet (fail)
        obtain ⟨w5, hw5⟩ : ∃ w5, w5 = wr.drewN nq := ⟨_, rfl⟩
        rw [← hw5]
        have hf5 : Hid (Fr wr w5) := by rw [hw5]; exact fr_drewN _ _
        clear hw5
        have HA5 := Lib.hid (hf5.out.blk HAr.out)
        obtain ⟨t0, t1, t2, t3, t4, t5, u0, u1, u2, u3, u4, u5⟩ := ans_cells (hf5.out.blk hT.out)
        obtain ⟨b0, b1, b2, b3, b4, b5, g0, g1, g2, g3, g4, g5⟩ := ans_cells HA5.out
        go_wp2_with fail
        exact bodyPost_ret (results_cell_row rfl _ _ (w.heap.size + 1) _ _ (0, 0) _ rfl (set6_heap HA5.out _ _ _ _ _ _) Try.underlying44 rfl (by kernel_rfl)) rfl
          (pdo_range_end HP.out ((hff.out.trans hf3.out).trans HFa.out) (hm.out.then hf5.out) hs3.out (ho6.out.fr hf5.out) hlen.out (by have := hs3.out; have := hz4.out; omega) _ _ _ _ _ _)
    · have hT2 := FIN.out (fun q hq => by have := hni.out; rw [hRL.out, List.getElem?_eq_none (by omega)] at hq; cases hq)
      have hlen : Hid (i = (span L k v).length) := by rw [Hid, hT2, List.length_take, hRn.out]; have := hni.out; omega
      have ho6 : Hid (Own wr w4.heap.size 55 2 A5 i c5 ((span L k v).flatMap pcells)) := by rw [Hid, hT2]; exact ho.out
      have hnz : decide (n < L.length) = false := decide_eq_false hlt
      clear hT2 hn hlt FIN ho hall
      go_wp2_with fail
      go_quiet (fail)
      obtain ⟨w5, hw5⟩ : ∃ w5, w5 = wr.drewN nq := ⟨_, rfl⟩
      rw [← hw5]
      have hf5 : Hid (Fr wr w5) := by rw [hw5]; exact fr_drewN _ _
      clear hw5
      have HA5 := Lib.hid (hf5.out.blk HAr.out)
      obtain ⟨t0, t1, t2, t3, t4, t5, u0, u1, u2, u3, u4, u5⟩ := ans_cells (hf5.out.blk hT.out)
      obtain ⟨b0, b1, b2, b3, b4, b5, g0, g1, g2, g3, g4, g5⟩ := ans_cells HA5.out
      go_wp2_with fail
      exact bodyPost_ret (results_cell_row rfl _ _ (w.heap.size + 1) _ _ (0, 0) _ rfl (set6_heap HA5.out _ _ _ _ _ _) Try.underlying44 rfl (by kernel_rfl)) rfl
        (pdo_range_end HP.out ((hff.out.trans hf3.out).trans HFa.out) (hm.out.then hf5.out) hs3.out (ho6.out.fr hf5.out) hlen.out (by have := hs3.out; have := hz4.out; omega) _ _ _ _ _ _)

end Go.Proofs.Ytjannhphmemenaa
