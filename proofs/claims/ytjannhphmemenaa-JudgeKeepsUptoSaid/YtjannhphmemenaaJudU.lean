/- An answer with one thing turned, II (printed by genturn.py). -/
import Derived.Test.YtjannhphmemenaaJudT
namespace Go.Proofs.Ytjannhphmemenaa
set_option maxRecDepth 100000
open Go.RowKit Go.Inc Go.Jud Go.Maps Go.Sort

set_option maxHeartbeats 2000000 in
theorem turned_5d (a : AnsV) (B : Option Addr) (m cb : Nat) (rule z : Int) (w : World) (hm : m = a.list.length) (hrd : RdC w B (a.list.flatMap pcells)) (hl : a.list.length ≤ 1073741824) (hz : U z) (hk : U a.key) (hv : U a.val) (hc : 0 ≤ a.code ∧ a.code ≤ 1000) (hn : 0 ≤ a.num ∧ a.num ≤ 1099511627776) (hr1 : rule = 5) (hn0 : a.list.length ≠ 0) (h3 : z % 3 ≠ 0) (h4 : z % 3 ≠ 1) :
    Calls Try.prog 15 #[ansIn a B m cb, .int .i64 rule, .int .u64 z] w (TurnPost (turnV a rule z).1 (turnV a rule z).2 w) := by
  subst hm; subst hr1
  obtain ⟨hz0, hz1⟩ := hz
  obtain ⟨hk0, hk1⟩ := hk
  obtain ⟨hv0, hv1⟩ := hv
  have HR := Lib.hid hrd
  have HV : Hid (turnV a 5 z = ({ a with list := a.list.set (z / 3 % (a.list.length : Int)).toNat ((a.list.getD (z / 3 % (a.list.length : Int)).toNat (0, 0)).1, ((a.list.getD (z / 3 % (a.list.length : Int)).toNat (0, 0)).2 + 1) % 18446744073709551616) }, true)) := by unfold turnV; simp [h3, h4, hn0, Hid]
  have hn1 : ((a.list.length : Int) == 0) = false := beq_eq_false_iff_ne.2 (by omega)
  have h31 : (z % 3 == 0) = false := by simpa using h3
  have h32 : (z % 3 == 1) = false := by simpa using h4
  obtain ⟨m, hm⟩ : ∃ m : Nat, m = (z / 3 % (a.list.length : Int)).toNat := ⟨_, rfl⟩
  have hm0 := Int.emod_nonneg (z / 3) (show (a.list.length : Int) ≠ 0 by omega)
  have hm1 := Int.emod_lt_of_pos (z / 3) (show (0 : Int) < a.list.length by omega)
  have hme : z / 3 % (a.list.length : Int) = (m : Int) := by omega
  have hme2 : Int.tmod (z / 3) (a.list.length : Int) = (m : Int) := by rw [Int.tmod_eq_emod_of_nonneg (by omega)]; exact hme
  have hme3 : (IntKind.u64.wrap (z.tdiv 3)).tmod (a.list.length : Int) = (m : Int) := by rw [IntWalk.u64_quo z 3 (by omega)]; exact hme2
  have hnn : ¬ a.list = [] := fun e => hn0 (by rw [e]; rfl)
  have hml : Hid (m < a.list.length) := by rw [Hid]; omega
  have hmz : (m : Int) < (a.list.length : Int) := by omega
  have hnz : ¬ ((a.list.length : Int) = 0) := by omega
  have hnb : (a.list.length : Int) ≠ 0 := by omega
  have hwm : IntKind.u64.wrap (a.list.length : Int) = (a.list.length : Int) := wrap_u64_in _ (by omega) (by omega)
  have hwm2 : IntKind.i64.wrap (m : Int) = (m : Int) := wrap_i64_in _ (by omega) (by omega)
  rw [← hm] at HV
  clear hn0 h3 h4 hm0 hm1 hm
  clear hrd
  unfold ansIn
  go_enter Try.func15, Try.ntmps15
  go_wp2_with (at_builtin; refine gate ?_)
  obtain ⟨w3, hw3⟩ : ∃ w3, w3 = (w.alloc (.cells #[.int .i64 a.code, .bool a.is, .int .u64 a.key, .int .u64 a.val, .int .i64 a.num, .slice B a.list.length cb] 44)).alloc (.cells #[.int .i64 0, .bool false, .int .u64 0, .int .u64 0, .int .i64 0, .slice none 0 0] 44) := ⟨_, rfl⟩
  have ht := alloc2_fst w (.cells #[.int .i64 a.code, .bool a.is, .int .u64 a.key, .int .u64 a.val, .int .i64 a.num, .slice B a.list.length cb] 44) (.cells #[.int .i64 0, .bool false, .int .u64 0, .int .u64 0, .int .i64 0, .slice none 0 0] 44)
  have hr := alloc2_snd w (.cells #[.int .i64 a.code, .bool a.is, .int .u64 a.key, .int .u64 a.val, .int .i64 a.num, .slice B a.list.length cb] 44) (.cells #[.int .i64 0, .bool false, .int .u64 0, .int .u64 0, .int .i64 0, .slice none 0 0] 44)
  have hff := fr2 w (.cells #[.int .i64 a.code, .bool a.is, .int .u64 a.key, .int .u64 a.val, .int .i64 a.num, .slice B a.list.length cb] 44) (.cells #[.int .i64 0, .bool false, .int .u64 0, .int .u64 0, .int .i64 0, .slice none 0 0] 44)
  have hsz : w3.heap.size = w.heap.size + 1 + 1 := by rw [hw3]; simp
  rw [← hw3] at ht hr hff ⊢
  clear hw3
  have HT := Lib.hid ht
  have HZ := Lib.hid hr
  have HF := Lib.hid hff
  have HS := Lib.hid hsz
  clear ht hr hff hsz
  have hbn : Blk (w3.alloc (.cells (arr []) 55)) (w.heap.size + 1 + 1) [] 55 := by have := Blk.new w3 [] 55; rwa [HS.out] at this
  refine gate_app rfl _ _ 42 rfl 55 (.agg #[.int .u64 0, .int .u64 0]) 2 16 Try.underlying42 info_pair rfl (by omega) (by omega) w3.heap.size (some ⟨w.heap.size + 1 + 1, 0, none⟩) 0 0 [] B a.list.length cb (a.list.flatMap pcells) (by rfl) (by rfl)
    (Own.of_blk hbn (by rw [HS.out]; exact Nat.le_refl _) rfl (by omega)) (flat_len pcells 2 pcells_len _) ((HR.out.fr HF.out).fr ((Fr.refl w3).alloc _)) (pcells_one _) (by omega) (by simp) ?_
  intro A4 c4 w4 hown4 hgr4 hat4
  have hf4 : Hid (Fr w3 w4) := ((Fr.refl w3).alloc _).grown hgr4.out (fun k hk => by have := HS.out; simp [ablk] at hk; omega)
  have ho4 : Hid (Own w4 w3.heap.size 55 2 A4 a.list.length c4 (a.list.flatMap pcells)) := by simpa [Hid] using hown4.out
  clear hown4 hgr4 hat4
  rw [Nat.zero_add]
  have HT4 := Lib.hid (hf4.out.blk HT.out)
  have HZ4 := Lib.hid (hf4.out.blk HZ.out)
  have HFF : Hid (Fr w w4) := HF.out.trans hf4.out
  have hA4 : Hid (∀ k, ablk A4 = some k → w.heap.size + 2 ≤ k ∧ k < w4.heap.size) := fun k hk => ⟨by have := (ho4.out.lt k hk).1; have := HS.out; omega, (ho4.out.lt k hk).2⟩
  obtain ⟨t0, t1, t2, t3, t4, t5, u0, u1, u2, u3, u4, u5⟩ := ans_cells HT4.out
  obtain ⟨e0, e1, e2, e3, e4, e5, g0, g1, g2, g3, g4, g5⟩ := ans_cells HZ4.out
  go_upto_region 2 with fail
  obtain ⟨w5, hw5⟩ : ∃ w5, w5 = w4.setCell ⟨w.heap.size, 5, none⟩ (.slice A4 a.list.length c4) := ⟨_, rfl⟩
  have HT5 : Hid (w5.heap[w.heap.size]? = some (.cells #[.int .i64 a.code, .bool a.is, .int .u64 a.key, .int .u64 a.val, .int .i64 a.num, .slice A4 a.list.length c4] 44)) := by
    have := blk_set HT4.out 5 (.slice A4 a.list.length c4)
    rw [hw5]; simpa [Hid] using this
  have HZ5 : Hid (w5.heap[w.heap.size + 1]? = some (.cells #[.int .i64 0, .bool false, .int .u64 0, .int .u64 0, .int .i64 0, .slice none 0 0] 44)) := by rw [hw5]; exact blk_set_ne HZ4.out (by simp) _
  have ho5 : Hid (Own w5 (w.heap.size + 2) 55 2 A4 a.list.length c4 (a.list.flatMap pcells)) := by
    rw [hw5]; exact (ho4.out.mv ((Mv.refl (one1 w.heap.size) w4).set (p := ⟨w.heap.size, 5, none⟩) (.inl rfl) _) (fun k hk e => by have h1 : k = w.heap.size := e; have := (hA4.out k hk).1; omega)).base (fun k hk => (hA4.out k hk).1)
  have HF5 : Hid (Fr w w5) := by rw [hw5]; exact HFF.out.set (p := ⟨w.heap.size, 5, none⟩) (Nat.le_refl _) _
  rw [← hw5]
  clear hw5 t0 t1 t2 t3 t4 t5 u0 u1 u2 u3 u4 u5 e0 e1 e2 e3 e4 e5 g0 g1 g2 g3 g4 g5
  obtain ⟨t0, t1, t2, t3, t4, t5, u0, u1, u2, u3, u4, u5⟩ := ans_cells HT5.out
  obtain ⟨e0, e1, e2, e3, e4, e5, g0, g1, g2, g3, g4, g5⟩ := ans_cells HZ5.out
  obtain ⟨gA, rfl⟩ : ∃ gA, A4 = some ⟨gA, 0, none⟩ := own_addr' ho5.out (by have := hml.out; omega)
  obtain ⟨p, hp⟩ : ∃ p, a.list[m]? = some p := ⟨_, List.getElem?_eq_getElem hml.out⟩
  have hgd : a.list.getD m (0, 0) = p := by rw [List.getD_eq_getElem?_getD, hp]; rfl
  obtain ⟨bq, oq, hq, hcq⟩ := pairs_cells ho5.out.rd (by have := hml.out; omega)
  injection hq with hq
  injection hq with hq1 hq2
  subst hq1; subst hq2
  have cv : w5.cell? ⟨gA, m * 2 + 1, none⟩ = some (.int .u64 p.2) := by have := (hcq m hml.out).2; rw [hgd] at this; simpa using this
  have fv : w5.frozen? ⟨gA, m * 2 + 1, none⟩ = false := own_frozen ho5.out _
  have hwv : IntKind.u64.wrap (p.2 + 1) = (p.2 + 1) % 18446744073709551616 := wrap_u64 _
  have hgA : Hid (w.heap.size + 2 ≤ gA) := (hA4.out gA rfl).1
  have hga1 : gA ≠ w.heap.size := by have := hgA.out; omega
  have hga2 : gA ≠ w.heap.size + 1 := by have := hgA.out; omega
  have HP := Lib.hid hp
  rw [hgd] at HV
  clear hcq hgd hp
  go_wp2_with fail
  refine wp_region_quiet_tail 14 (by kernel_rfl) (by kernel_rfl) ?_
  try simp only [List.take_succ_cons, List.take_zero, List.drop_succ_cons, List.drop_zero]
  try go_frame
  repeat (quiet_step (fail))
  refine wpQuiet_nil ?_
  intro _ hw'
  obtain ⟨q, rfl⟩ := hw'
  obtain ⟨w6, hw6⟩ : ∃ w6, w6 = w5.drewN q := ⟨_, rfl⟩
  rw [← hw6]
  have hf6 : Hid (Fr w5 w6) := by rw [hw6]; exact fr_drewN _ _
  clear hw6
  have HT6 := Lib.hid (hf6.out.blk HT5.out)
  have HZ6 := Lib.hid (hf6.out.blk HZ5.out)
  have ho6 := Lib.hid (ho5.out.fr hf6.out)
  have cv6 := hf6.out.cell cv
  have fv6 : w6.frozen? ⟨gA, m * 2 + 1, none⟩ = false := own_frozen ho6.out _
  clear cv fv t0 t1 t2 t3 t4 t5 u0 u1 u2 u3 u4 u5 e0 e1 e2 e3 e4 e5 g0 g1 g2 g3 g4 g5
  obtain ⟨t0, t1, t2, t3, t4, t5, u0, u1, u2, u3, u4, u5⟩ := ans_cells HT6.out
  obtain ⟨e0, e1, e2, e3, e4, e5, g0, g1, g2, g3, g4, g5⟩ := ans_cells HZ6.out
  go_wp2_with fail
  rw [HV.out]
  refine bodyPost_ret (results_row_tmp rfl _ _ (w.heap.size + 1) _ _ (0, 0) _ rfl (set6_heap (blk_set_ne HZ6.out (by simpa using hga2) _) _ _ _ _ _ _) Try.underlying44 rfl (by kernel_rfl) _ rfl) rfl ?_
  have hset := own_set ho6.out (m * 2 + 1) (.int .u64 ((p.2 + 1) % 18446744073709551616))
  rw [flat_set p.1 ((p.2 + 1) % 18446744073709551616) p.2 a.list m HP.out] at hset
  exact turn_end (a := { a with list := a.list.set m (p.1, (p.2 + 1) % 18446744073709551616) }) (ok := true) (by simp) hset.rd (fun k hk => by simp [ablk] at hk; have := hgA.out; omega) ((HF5.out.trans hf6.out).set (p := ⟨gA, m * 2 + 1, none⟩) (by have := hgA.out; show _ ≤ gA; omega) _) _ _ _ _ _ _

theorem turned_calls (a : AnsV) (B : Option Addr) (m cb : Nat) (rule z : Int) (w : World) (hm : m = a.list.length) (hrd : RdC w B (a.list.flatMap pcells)) (hl : a.list.length ≤ 1073741824) (hz : U z) (hk : U a.key) (hv : U a.val) (hc : 0 ≤ a.code ∧ a.code ≤ 1000) (hn : 0 ≤ a.num ∧ a.num ≤ 1099511627776) :
    Calls Try.prog 15 #[ansIn a B m cb, .int .i64 rule, .int .u64 z] w (TurnPost (turnV a rule z).1 (turnV a rule z).2 w) := by
  by_cases h1 : rule = 1
  · exact turned_1 a B m cb rule z w hm hrd hl hz hk hv hc hn h1
  by_cases h2 : rule = 2
  · exact turned_2 a B m cb rule z w hm hrd hl hz hk hv hc hn h2
  by_cases h3 : rule = 3
  · by_cases he : z % 2 = 0
    · exact turned_3e a B m cb rule z w hm hrd hl hz hk hv hc hn h3 he
    · exact turned_3o a B m cb rule z w hm hrd hl hz hk hv hc hn h3 he
  by_cases h4 : rule = 4
  · exact turned_4 a B m cb rule z w hm hrd hl hz hk hv hc hn h4
  by_cases h5 : rule = 5
  · by_cases h0 : a.list.length = 0
    · exact turned_5a a B m cb rule z w hm hrd hl hz hk hv hc hn h5 h0
    by_cases e0 : z % 3 = 0
    · exact turned_5b a B m cb rule z w hm hrd hl hz hk hv hc hn h5 h0 e0
    by_cases e1 : z % 3 = 1
    · exact turned_5c a B m cb rule z w hm hrd hl hz hk hv hc hn h5 h0 e1
    · exact turned_5d a B m cb rule z w hm hrd hl hz hk hv hc hn h5 h0 e0 e1
  exact turned_no a B m cb rule z w hm hrd hl hz hk hv hc hn h1 h2 h3 h4 h5

end Go.Proofs.Ytjannhphmemenaa
